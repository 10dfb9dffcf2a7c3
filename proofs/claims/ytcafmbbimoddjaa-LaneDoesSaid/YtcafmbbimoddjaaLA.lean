/- The walks of a row: at, pop, push; and of New. -/
import Derived.Test.YtcafmbbimoddjaaProg
import Derived.Test.YtcafmbbimoddjaaLM
set_option linter.unusedVariables false
set_option linter.unusedSimpArgs false
namespace Go.Proofs.Ytcafmbbimoddjaa.LN
open Go.RowKit Go.Proofs.Ytcafmbbimoddjaa.K
def rowR' (b : Nat) (pre : List Value) (r : Rw) (suf : List Value) : Res := cellsR b (pre ++ r.cells ++ suf) 53
theorem ret_ptr {b i j : Nat} (h : i = j) : Ending.returned (.pointer (some ⟨b, i, none⟩)) = .returned (.pointer (some ⟨b, j, none⟩)) := by rw [h]
def zr : Rw := ⟨List.replicate 64 e0, 0, 0⟩
def lcells (l : List Rw) : List Value := l.flatMap Rw.cells
set_option maxRecDepth 100000 in
theorem z53 : ((Try.prog.info? 53).map (fun i => i.zero)) = some (some (Value.agg (lcells (List.replicate 48 zr)).toArray)) := by kernel_rfl
theorem zv53 (w : World) : (zeroValue 53).run Try.prog w = .ok (.agg (lcells (List.replicate 48 zr)).toArray) w := by
  obtain ⟨i, hi, hz⟩ := Option.map_eq_some_iff.1 z53
  simp [zeroValue, typeInfo, hi, hz]
theorem bd38_ {S ρ ty} {parts : Array (Nat × Operand)}  (hp : (parts.toList.map fun x => (x.1, ev ρ x.2)) = []) : Y Try.prog S ρ (.build 38 parts) ty (.agg #[Value.string ⟨#[]⟩, Value.int .i64 0]) :=
  Y.build hp fun w => by simp [Instr.build, go_sem]
theorem bd38_0 {S ρ ty} {parts : Array (Nat × Operand)} {x0 : ByteArray} (hp : (parts.toList.map fun x => (x.1, ev ρ x.2)) = [(0, Value.string x0)]) : Y Try.prog S ρ (.build 38 parts) ty (.agg #[Value.string x0, Value.int .i64 0]) :=
  Y.build hp fun w => by simp [Instr.build, go_sem]
theorem fa50_0 (a : Addr) (w : World) : (Instr.fieldAt 50 (.pointer (some a)) 0).run Try.prog w = .ok (.pointer (some (a.add 0))) w := by
  simp [Instr.fieldAt, Instr.sureAddr, go_sem]
theorem fa50_1 (a : Addr) (w : World) : (Instr.fieldAt 50 (.pointer (some a)) 1).run Try.prog w = .ok (.pointer (some (a.add 128))) w := by
  simp [Instr.fieldAt, Instr.sureAddr, go_sem]
theorem fa50_2 (a : Addr) (w : World) : (Instr.fieldAt 50 (.pointer (some a)) 2).run Try.prog w = .ok (.pointer (some (a.add 129))) w := by
  simp [Instr.fieldAt, Instr.sureAddr, go_sem]
theorem fa53_0 (a : Addr) (w : World) : (Instr.fieldAt 53 (.pointer (some a)) 0).run Try.prog w = .ok (.pointer (some (a.add 0))) w := by
  simp [Instr.fieldAt, Instr.sureAddr, go_sem]
theorem cf22 : ∀ args w, (callFunc 22 args).run Try.prog w = .ok (.enter 22 args) w := fun _ _ => by simp [go_sem]
theorem cf23 : ∀ args w, (callFunc 23 args).run Try.prog w = .ok (.enter 23 args) w := fun _ _ => by simp [go_sem]

/-- The k-th item's place. -/
theorem at_any (b o : Nat) (pre suf : List Value) (r : Rw) (k : Nat) (w0 w : World) (F0 : List Nat) (L G : List Res) (hst : St w0 F0 w L G) (n : Nat) (hL : L[n]? = some (rowR' b pre r suf)) (ho : pre.length = o) (hr : r.Wf) (hk : k ≤ 64) :
    Calls Try.prog 23 #[.pointer (some ⟨b, o, none⟩), .int .i64 (k : Int)] w fun e w' => e = .returned (.pointer (some ⟨b, o + (r.first + k) % 64 * 2, none⟩)) ∧ St w0 F0 w' L G := by
  have hf := hr.f
  refine W.func Try.func23 rfl Try.ntmps23 rfl ?_
  refine W.seq rfl ?_
  refine W.region rfl ?_
  refine Ops.y rfl rfl rfl hst.ctx (Y.assignP rfl) ?_
  refine Ops.done rfl ?_
  refine W.seq rfl ?_
  refine W.drawn rfl (by kernel_rfl) (Ctx _ _ (_) (_)) [] [(0, 0), (1, 0), (2, 0), (3, 0), (4, 0), (5, 0), (6, 0), (7, 0), (8, 0), (9, 0), (10, 0), (11, 0)] rfl (by kernel_rfl) hst.drew.ctx ?_
  replace hst := hst.drew
  generalize World.drew _ = wd at hst ⊢
  refine Drw.y rfl rfl rfl hst.ctx (Y.moveP rfl) ?_
  refine Drw.y rfl rfl rfl hst.ctx (Y.moveP rfl) ?_
  refine Drw.y rfl rfl rfl hst.ctx (Y.nilCheck rfl) ?_
  first
  | refine Drw.y rfl rfl rfl hst.ctx (Y.fieldAddr fa50_1 rfl) ?_
  | refine Drw.y rfl rfl rfl hst.ctx (Y.fieldAddrP fa50_1 rfl) ?_
  refine Drw.y rfl rfl rfl hst.ctx (Y.load n Try.isAgg3 rfl hL (at_first ho hr)) ?_
  refine Drw.y rfl rfl rfl hst.ctx (Y.moveI rfl) ?_
  refine Drw.y rfl rfl rfl hst.ctx (Y.addI rfl rfl (by omega)) ?_
  refine Drw.y rfl rfl rfl hst.ctx (Y.remI rfl rfl (by omega)) ?_
  refine Drw.y rfl rfl rfl hst.ctx (Y.nilCheck rfl) ?_
  first
  | refine Drw.y rfl rfl rfl hst.ctx (Y.fieldAddr fa50_0 rfl) ?_
  | refine Drw.y rfl rfl rfl hst.ctx (Y.fieldAddrP fa50_0 rfl) ?_
  refine Drw.y rfl rfl rfl hst.ctx (Y.indexAddrA Try.underlying48 Try.sizeOf38 rfl rfl (by omega)) ?_
  refine Drw.y rfl rfl rfl hst.ctx (Y.assignP rfl) ?_
  refine Drw.done ?_
  refine W.ret rfl ?_
  refine ⟨_, Rslt.one Try.results23 rfl, ?_⟩
  exact ⟨ret_ptr (by omega), hst⟩

set_option maxHeartbeats 1000000 in
/-- The first goes. -/
theorem pop_any (b o : Nat) (pre suf : List Value) (r : Rw) (w0 w : World) (F0 : List Nat) (L G : List Res) (hst : St w0 F0 w (rowR' b pre r suf :: L) G) (ho : pre.length = o) (hr : r.Wf) (hc : 0 < r.count) :
    Calls Try.prog 22 #[.pointer (some ⟨b, o, none⟩)] w fun e w' => e = .returned (.agg #[.string (r.ring.getD r.first e0).1, .int .i64 (r.ring.getD r.first e0).2]) ∧ St w0 F0 w' (rowR' b pre r.pop suf :: L) G := by
  have hf := hr.f
  have hcc := hr.c
  have hmod : (r.first + 0) % 64 = r.first := by omega
  refine W.func Try.func22 rfl Try.ntmps22 rfl ?_
  refine W.seq rfl ?_
  refine W.region rfl ?_
  refine Ops.x rfl rfl rfl (X.allocA hst Try.zeroValue38 ?_)
  clear hst; intro p2 w2 hst
  refine Ops.done rfl ?_
  refine W.seq rfl ?_
  refine W.region rfl ?_
  refine Ops.y rfl rfl rfl hst.ctx (Y.moveP rfl) ?_
  refine Ops.x rfl rfl rfl (X.call cf23 rfl ?_)
  refine use_call (at_any b o pre suf r 0 _ _ _ _ _ hst 1 rfl ho hr (by omega)) rfl ?_; rintro e w1 ⟨rfl, hst⟩; refine ⟨_, rfl, ?_⟩
  refine Ops.y rfl rfl rfl hst.ctx (Y.nilCheck rfl) ?_
  refine Ops.y rfl rfl rfl hst.ctx (Y.loadA 1 Try.isAgg38 Try.sizeOf38 rfl rfl ((at_ring ho hr (by omega)).trans (congrArg (fun k => itc (r.ring.getD k e0)) hmod)) rfl) ?_
  refine Ops.x rfl rfl rfl (X.allocA hst Try.zeroValue38 ?_)
  clear hst; intro p3 w3 hst
  first
  | refine Ops.x rfl rfl rfl (X.storeS hst 0 Try.sizeOf38 rfl rfl rfl rfl rfl (Nat.le_of_ble_eq_true rfl) rfl rfl ?_)
  | refine Ops.x rfl rfl rfl (X.storeS hst 1 Try.sizeOf38 rfl rfl rfl rfl rfl (Nat.le_of_ble_eq_true rfl) rfl rfl ?_)
  clear hst; intro w1_5 hst
  try simp only [List.set_cons_zero, List.set_cons_succ, Nat.zero_add, Nat.reduceAdd, splice, List.take, List.drop, List.append_eq, List.nil_append, List.cons_append, List.length_cons, List.length_nil] at hst
  refine Ops.done rfl ?_
  refine W.seq rfl ?_
  refine W.region rfl ?_
  refine Ops.y rfl rfl rfl hst.ctx (Y.moveP rfl) ?_
  refine Ops.x rfl rfl rfl (X.call cf23 rfl ?_)
  refine use_call (at_any b o pre suf r 0 _ _ _ _ _ hst 2 rfl ho hr (by omega)) rfl ?_; rintro e w1 ⟨rfl, hst⟩; refine ⟨_, rfl, ?_⟩
  refine Ops.y rfl rfl rfl hst.ctx (bd38_ rfl) ?_
  refine Ops.y rfl rfl rfl hst.ctx (Y.nilCheck rfl) ?_
  refine Ops.x rfl rfl rfl (X.storeS hst 2 Try.sizeOf38 rfl rfl rfl rfl rfl (by rw [List.length_append, List.length_append, cells_length hr]; omega) (set_ring ho hr (k := (r.first + 0) % 64) (by omega) e0) rfl ?_)
  clear hst; intro w2 hst
  have hr2 : ({ r with ring := r.ring.set ((r.first + 0) % 64) e0 } : Rw).Wf := ⟨by simp [hr.len], hr.f, hr.c⟩
  have e2 : ({ r with ring := r.ring.set ((r.first + 0) % 64) e0 } : Rw).first = r.first ∧ ({ r with ring := r.ring.set ((r.first + 0) % 64) e0 } : Rw).count = r.count := ⟨rfl, rfl⟩
  generalize h2 : ({ r with ring := r.ring.set ((r.first + 0) % 64) e0 } : Rw) = r2 at hst hr2 e2
  refine Ops.done rfl ?_
  refine W.seq rfl ?_
  refine W.drawn rfl (by kernel_rfl) (Ctx _ _ (_) (_)) [15, 16, 17, 18] [(0, 0), (1, 2), (2, 0), (3, 0), (4, 0), (5, 0), (6, 0), (7, 0), (8, 2), (9, 2), (10, 2), (11, 0), (12, 2), (13, 2), (14, 0), (15, 1), (16, 1), (17, 1), (18, 1)] rfl (by kernel_rfl) hst.drew.ctx ?_
  replace hst := hst.drew
  generalize World.drew _ = wd at hst ⊢
  refine Drw.y rfl rfl rfl hst.ctx (Y.moveP rfl) ?_
  refine Drw.ya rfl rfl rfl hst.ctx (Y.moveP rfl) ?_
  refine Drw.y rfl rfl rfl hst.ctx (Y.moveP rfl) ?_
  refine Drw.y rfl rfl rfl hst.ctx (Y.nilCheck rfl) ?_
  first
  | refine Drw.y rfl rfl rfl hst.ctx (Y.fieldAddr fa50_1 rfl) ?_
  | refine Drw.y rfl rfl rfl hst.ctx (Y.fieldAddrP fa50_1 rfl) ?_
  first
  | refine Drw.y rfl rfl rfl hst.ctx (Y.load 0 Try.isAgg3 rfl rfl rfl) ?_
  | refine Drw.y rfl rfl rfl hst.ctx (Y.load 1 Try.isAgg3 rfl rfl rfl) ?_
  | refine Drw.y rfl rfl rfl hst.ctx (Y.load 2 Try.isAgg3 rfl rfl (at_first ho hr2)) ?_
  | refine Drw.y rfl rfl rfl hst.ctx (Y.load 2 Try.isAgg3 rfl rfl (at_count ho hr2)) ?_
  refine Drw.y rfl rfl rfl hst.ctx (Y.addI rfl rfl (by omega)) ?_
  refine Drw.y rfl rfl rfl hst.ctx (Y.remI rfl rfl (by omega)) ?_
  refine Drw.ya rfl rfl rfl hst.ctx (Y.moveP rfl) ?_
  refine Drw.ya rfl rfl rfl hst.ctx (Y.nilCheck rfl) ?_
  first
  | refine Drw.ya rfl rfl rfl hst.ctx (Y.fieldAddr fa50_2 rfl) ?_
  | refine Drw.ya rfl rfl rfl hst.ctx (Y.fieldAddrP fa50_2 rfl) ?_
  first
  | refine Drw.y rfl rfl rfl hst.ctx (Y.load 0 Try.isAgg3 rfl rfl rfl) ?_
  | refine Drw.y rfl rfl rfl hst.ctx (Y.load 1 Try.isAgg3 rfl rfl rfl) ?_
  | refine Drw.y rfl rfl rfl hst.ctx (Y.load 2 Try.isAgg3 rfl rfl (at_first ho hr2)) ?_
  | refine Drw.y rfl rfl rfl hst.ctx (Y.load 2 Try.isAgg3 rfl rfl (at_count ho hr2)) ?_
  refine Drw.ya rfl rfl rfl hst.ctx (Y.subI rfl rfl (by omega)) ?_
  refine Drw.ya rfl rfl rfl hst.ctx (Y.nilCheck rfl) ?_
  first
  | refine Drw.y rfl rfl rfl hst.ctx (Y.fieldAddr fa50_1 rfl) ?_
  | refine Drw.y rfl rfl rfl hst.ctx (Y.fieldAddrP fa50_1 rfl) ?_
  refine Drw.z rfl rfl rfl rfl (X.store hst 2 Try.sizeOf3 rfl rfl rfl rfl (by rw [List.length_append, List.length_append, cells_length hr2]; omega) ((congrArg (List.set _ _) (congrArg (Value.int .i64) (show ((r2.first : Int) + 1) % 64 = (((r.first + 1) % 64 : Nat) : Int) by omega))).trans (set_first ho hr2 ((r.first + 1) % 64))) rfl ?_)
  clear hst; intro w3 hst
  have hr3 : ({ r2 with first := (r.first + 1) % 64 } : Rw).Wf := ⟨hr2.len, Nat.mod_lt _ (by decide), hr2.c⟩
  refine Drw.zy rfl rfl rfl rfl hst.ctx (Y.nilCheck rfl) ?_
  first
  | refine Drw.zy rfl rfl rfl rfl hst.ctx (Y.fieldAddr fa50_2 rfl) ?_
  | refine Drw.zy rfl rfl rfl rfl hst.ctx (Y.fieldAddrP fa50_2 rfl) ?_
  refine Drw.z rfl rfl rfl rfl (X.store hst 2 Try.sizeOf3 rfl rfl rfl rfl (by rw [List.length_append, List.length_append, cells_length hr3]; omega) ((congrArg (List.set _ _) (congrArg (Value.int .i64) (show (r2.count : Int) - 1 = ((r.count - 1 : Nat) : Int) by omega))).trans (set_count ho hr3 (r.count - 1))) rfl ?_)
  clear hst; intro w4 hst
  refine Drw.done ?_
  refine W.seq rfl ?_
  refine W.region rfl ?_
  first
  | refine Ops.y rfl rfl rfl hst.ctx (Y.loadA 0 Try.isAgg38 Try.sizeOf38 rfl rfl rfl rfl) ?_
  | refine Ops.y rfl rfl rfl hst.ctx (Y.loadA 1 Try.isAgg38 Try.sizeOf38 rfl rfl rfl rfl) ?_
  | refine Ops.y rfl rfl rfl hst.ctx (Y.load 2 Try.isAgg3 rfl rfl (at_first ho hr2)) ?_
  | refine Ops.y rfl rfl rfl hst.ctx (Y.load 2 Try.isAgg3 rfl rfl (at_count ho hr2)) ?_
  first
  | refine Ops.x rfl rfl rfl (X.storeS hst 0 Try.sizeOf38 rfl rfl rfl rfl rfl (Nat.le_of_ble_eq_true rfl) rfl rfl ?_)
  | refine Ops.x rfl rfl rfl (X.storeS hst 1 Try.sizeOf38 rfl rfl rfl rfl rfl (Nat.le_of_ble_eq_true rfl) rfl rfl ?_)
  clear hst; intro w4_1 hst
  try simp only [List.set_cons_zero, List.set_cons_succ, Nat.zero_add, Nat.reduceAdd, splice, List.take, List.drop, List.append_eq, List.nil_append, List.cons_append, List.length_cons, List.length_nil] at hst
  refine Ops.done rfl ?_
  refine W.ret rfl ?_
  refine ⟨_, Rslt.cell Try.results22 rfl (run_load_agg Try.isAgg38 Try.sizeOf38 rfl (fun j v h => by rw [add_lit', hst.cell (.inl (List.Mem.tail _ (List.Mem.head _))) (0 + j), Nat.zero_add]; exact h)), ?_⟩
  refine ⟨rfl, ?_⟩
  have e3 : ({ r2 with first := (r.first + 1) % 64, count := r.count - 1 } : Rw) = r.pop := by rw [← h2, hmod]; rfl
  have hst := hst.drop.drop
  rw [show (cellsR b (pre ++ ({ r2 with first := (r.first + 1) % 64, count := r.count - 1 } : Rw).cells ++ suf) 53) = rowR' b pre r.pop suf by rw [e3]; rfl] at hst
  exact hst

set_option maxHeartbeats 1000000 in
/-- One more comes; the first goes if there is no room. -/
theorem push_any (b o : Nat) (pre suf : List Value) (r : Rw) (s : ByteArray) (w0 w : World) (F0 : List Nat) (L G : List Res) (hst : St w0 F0 w (rowR' b pre r suf :: L) G) (ho : pre.length = o) (hr : r.Wf) :
    Calls Try.prog 21 #[.pointer (some ⟨b, o, none⟩), .string s] w fun e w' => ∃ c, e = .returned (.bool c) ∧ c = decide (r.count ≠ 64) ∧ St w0 F0 w' (rowR' b pre (r.push s) suf :: L) G := by
  have hf := hr.f
  have hcc := hr.c
  refine W.func Try.func21 rfl Try.ntmps21 rfl ?_
  refine W.seq rfl ?_
  refine W.region rfl ?_
  refine Ops.y rfl rfl rfl hst.ctx (Y.assignB rfl) ?_
  refine Ops.done rfl ?_
  refine W.seq rfl ?_
  refine W.region rfl ?_
  refine Ops.y rfl rfl rfl hst.ctx (Y.moveP rfl) ?_
  refine Ops.y rfl rfl rfl hst.ctx (Y.nilCheck rfl) ?_
  first
  | refine Ops.y rfl rfl rfl hst.ctx (Y.fieldAddr fa50_2 rfl) ?_
  | refine Ops.y rfl rfl rfl hst.ctx (Y.fieldAddrP fa50_2 rfl) ?_
  first
  | refine Ops.y rfl rfl rfl hst.ctx (Y.load 0 Try.isAgg3 rfl rfl (at_count ho hr)) ?_
  | refine Ops.y rfl rfl rfl hst.ctx (Y.load 0 Try.isAgg3 rfl rfl (at_count ho hq)) ?_
  | refine Ops.y rfl rfl rfl hst.ctx (Y.load 0 Try.isAgg3 rfl rfl (at_count ho hq2)) ?_
  refine Ops.yb rfl rfl rfl hst.ctx (Y.eql rfl rfl) (fun b10 hb10 => ?_)
  refine Ops.y rfl rfl rfl hst.ctx (Y.assignB rfl) ?_
  refine Ops.done rfl ?_
  refine W.seq rfl ?_
  refine W.seq rfl ?_
  refine W.region rfl ?_
  refine Ops.y rfl rfl rfl hst.ctx (Y.moveB rfl) ?_
  refine Ops.done rfl ?_
  cases b10
  · replace hb10 := of_decide_eq_false hb10.symm
    refine W.condF rfl rfl ?_
    refine W.skip rfl ?_
    refine W.seq rfl ?_
    obtain ⟨q, hq, hqc, hst, hfin⟩ : ∃ q : Rw, q.Wf ∧ q.count < 64 ∧ St w0 F0 _ (rowR' b pre q suf :: L) G ∧ r.push s = q.put (s, 0) := by first | exact ⟨r, hr, by omega, hst, by unfold Rw.push; rw [if_neg (by omega)]⟩ | exact ⟨r.pop, hr.pop, by simp only [Rw.pop]; omega, hst, by unfold Rw.push; rw [if_pos (by omega)]⟩
    have hqf := hq.f
    refine W.region rfl ?_
    refine Ops.y rfl rfl rfl hst.ctx (Y.moveP rfl) ?_
    refine Ops.y rfl rfl rfl hst.ctx (Y.moveP rfl) ?_
    refine Ops.y rfl rfl rfl hst.ctx (Y.nilCheck rfl) ?_
    first
    | refine Ops.y rfl rfl rfl hst.ctx (Y.fieldAddr fa50_2 rfl) ?_
    | refine Ops.y rfl rfl rfl hst.ctx (Y.fieldAddrP fa50_2 rfl) ?_
    first
    | refine Ops.y rfl rfl rfl hst.ctx (Y.load 0 Try.isAgg3 rfl rfl (at_count ho hr)) ?_
    | refine Ops.y rfl rfl rfl hst.ctx (Y.load 0 Try.isAgg3 rfl rfl (at_count ho hq)) ?_
    | refine Ops.y rfl rfl rfl hst.ctx (Y.load 0 Try.isAgg3 rfl rfl (at_count ho hq2)) ?_
    refine Ops.x rfl rfl rfl (X.call cf23 rfl ?_)
    refine use_call (at_any b o pre suf q q.count _ _ _ _ _ hst 0 rfl ho hq (by omega)) rfl ?_; rintro e w2 ⟨rfl, hst⟩; refine ⟨_, rfl, ?_⟩
    refine Ops.y rfl rfl rfl hst.ctx (Y.moveT rfl) ?_
    refine Ops.y rfl rfl rfl hst.ctx (bd38_0 rfl) ?_
    refine Ops.y rfl rfl rfl hst.ctx (Y.nilCheck rfl) ?_
    refine Ops.x rfl rfl rfl (X.storeS hst 0 Try.sizeOf38 rfl rfl rfl rfl rfl (by rw [List.length_append, List.length_append, cells_length hq]; omega) (set_ring ho hq (k := (q.first + q.count) % 64) (by omega) (s, 0)) rfl ?_)
    clear hst; intro w3 hst
    have hq2 : ({ q with ring := q.ring.set ((q.first + q.count) % 64) (s, 0) } : Rw).Wf := ⟨by simp [hq.len], hq.f, hq.c⟩
    have e2 : ({ q with ring := q.ring.set ((q.first + q.count) % 64) (s, 0) } : Rw).count = q.count := rfl
    generalize h2 : ({ q with ring := q.ring.set ((q.first + q.count) % 64) (s, 0) } : Rw) = q2 at hst hq2 e2
    refine Ops.done rfl ?_
    refine W.seq rfl ?_
    refine W.region rfl ?_
    refine Ops.y rfl rfl rfl hst.ctx (Y.moveP rfl) ?_
    refine Ops.y rfl rfl rfl hst.ctx (Y.nilCheck rfl) ?_
    first
    | refine Ops.y rfl rfl rfl hst.ctx (Y.fieldAddr fa50_2 rfl) ?_
    | refine Ops.y rfl rfl rfl hst.ctx (Y.fieldAddrP fa50_2 rfl) ?_
    first
    | refine Ops.y rfl rfl rfl hst.ctx (Y.load 0 Try.isAgg3 rfl rfl (at_count ho hr)) ?_
    | refine Ops.y rfl rfl rfl hst.ctx (Y.load 0 Try.isAgg3 rfl rfl (at_count ho hq)) ?_
    | refine Ops.y rfl rfl rfl hst.ctx (Y.load 0 Try.isAgg3 rfl rfl (at_count ho hq2)) ?_
    refine Ops.y rfl rfl rfl hst.ctx (Y.addI rfl rfl (by omega)) ?_
    refine Ops.y rfl rfl rfl hst.ctx (Y.nilCheck rfl) ?_
    first
    | refine Ops.y rfl rfl rfl hst.ctx (Y.fieldAddr fa50_2 rfl) ?_
    | refine Ops.y rfl rfl rfl hst.ctx (Y.fieldAddrP fa50_2 rfl) ?_
    refine Ops.x rfl rfl rfl (X.store hst 0 Try.sizeOf3 rfl rfl rfl rfl (by rw [List.length_append, List.length_append, cells_length hq2]; omega) ((congrArg (List.set _ _) (congrArg (Value.int .i64) (show (q2.count : Int) + 1 = ((q.count + 1 : Nat) : Int) by omega))).trans (set_count ho hq2 (q.count + 1))) rfl ?_)
    clear hst; intro w4 hst
    refine Ops.done rfl ?_
    refine W.seq rfl ?_
    refine W.region rfl ?_
    refine Ops.y rfl rfl rfl hst.ctx (Y.moveB rfl) ?_
    refine Ops.y rfl rfl rfl hst.ctx (Y.not rfl) ?_
    refine Ops.y rfl rfl rfl hst.ctx (Y.assignB rfl) ?_
    refine Ops.done rfl ?_
    refine W.ret rfl ?_
    refine ⟨_, Rslt.one Try.results21 rfl, ?_⟩
    refine ⟨_, rfl, ?_, ?_⟩
    · first | exact (decide_eq_true (by omega)).symm | exact (decide_eq_false (by omega)).symm
    · have e3 : ({ q2 with count := q.count + 1 } : Rw) = r.push s := by rw [hfin, ← h2]; rfl
      rw [← e3]; exact hst
  · replace hb10 := of_decide_eq_true hb10.symm
    refine W.condT rfl rfl ?_
    refine W.region rfl ?_
    refine Ops.y rfl rfl rfl hst.ctx (Y.moveP rfl) ?_
    refine Ops.x rfl rfl rfl (X.call cf22 rfl ?_)
    refine use_call (pop_any b o pre suf r _ _ _ _ _ hst ho hr (by omega)) rfl ?_; rintro e w1 ⟨rfl, hst⟩; refine ⟨_, rfl, ?_⟩
    refine Ops.done rfl ?_
    refine W.seq rfl ?_
    obtain ⟨q, hq, hqc, hst, hfin⟩ : ∃ q : Rw, q.Wf ∧ q.count < 64 ∧ St w0 F0 _ (rowR' b pre q suf :: L) G ∧ r.push s = q.put (s, 0) := by first | exact ⟨r, hr, by omega, hst, by unfold Rw.push; rw [if_neg (by omega)]⟩ | exact ⟨r.pop, hr.pop, by simp only [Rw.pop]; omega, hst, by unfold Rw.push; rw [if_pos (by omega)]⟩
    have hqf := hq.f
    refine W.region rfl ?_
    refine Ops.y rfl rfl rfl hst.ctx (Y.moveP rfl) ?_
    refine Ops.y rfl rfl rfl hst.ctx (Y.moveP rfl) ?_
    refine Ops.y rfl rfl rfl hst.ctx (Y.nilCheck rfl) ?_
    first
    | refine Ops.y rfl rfl rfl hst.ctx (Y.fieldAddr fa50_2 rfl) ?_
    | refine Ops.y rfl rfl rfl hst.ctx (Y.fieldAddrP fa50_2 rfl) ?_
    first
    | refine Ops.y rfl rfl rfl hst.ctx (Y.load 0 Try.isAgg3 rfl rfl (at_count ho hr)) ?_
    | refine Ops.y rfl rfl rfl hst.ctx (Y.load 0 Try.isAgg3 rfl rfl (at_count ho hq)) ?_
    | refine Ops.y rfl rfl rfl hst.ctx (Y.load 0 Try.isAgg3 rfl rfl (at_count ho hq2)) ?_
    refine Ops.x rfl rfl rfl (X.call cf23 rfl ?_)
    refine use_call (at_any b o pre suf q q.count _ _ _ _ _ hst 0 rfl ho hq (by omega)) rfl ?_; rintro e w2 ⟨rfl, hst⟩; refine ⟨_, rfl, ?_⟩
    refine Ops.y rfl rfl rfl hst.ctx (Y.moveT rfl) ?_
    refine Ops.y rfl rfl rfl hst.ctx (bd38_0 rfl) ?_
    refine Ops.y rfl rfl rfl hst.ctx (Y.nilCheck rfl) ?_
    refine Ops.x rfl rfl rfl (X.storeS hst 0 Try.sizeOf38 rfl rfl rfl rfl rfl (by rw [List.length_append, List.length_append, cells_length hq]; omega) (set_ring ho hq (k := (q.first + q.count) % 64) (by omega) (s, 0)) rfl ?_)
    clear hst; intro w3 hst
    have hq2 : ({ q with ring := q.ring.set ((q.first + q.count) % 64) (s, 0) } : Rw).Wf := ⟨by simp [hq.len], hq.f, hq.c⟩
    have e2 : ({ q with ring := q.ring.set ((q.first + q.count) % 64) (s, 0) } : Rw).count = q.count := rfl
    generalize h2 : ({ q with ring := q.ring.set ((q.first + q.count) % 64) (s, 0) } : Rw) = q2 at hst hq2 e2
    refine Ops.done rfl ?_
    refine W.seq rfl ?_
    refine W.region rfl ?_
    refine Ops.y rfl rfl rfl hst.ctx (Y.moveP rfl) ?_
    refine Ops.y rfl rfl rfl hst.ctx (Y.nilCheck rfl) ?_
    first
    | refine Ops.y rfl rfl rfl hst.ctx (Y.fieldAddr fa50_2 rfl) ?_
    | refine Ops.y rfl rfl rfl hst.ctx (Y.fieldAddrP fa50_2 rfl) ?_
    first
    | refine Ops.y rfl rfl rfl hst.ctx (Y.load 0 Try.isAgg3 rfl rfl (at_count ho hr)) ?_
    | refine Ops.y rfl rfl rfl hst.ctx (Y.load 0 Try.isAgg3 rfl rfl (at_count ho hq)) ?_
    | refine Ops.y rfl rfl rfl hst.ctx (Y.load 0 Try.isAgg3 rfl rfl (at_count ho hq2)) ?_
    refine Ops.y rfl rfl rfl hst.ctx (Y.addI rfl rfl (by omega)) ?_
    refine Ops.y rfl rfl rfl hst.ctx (Y.nilCheck rfl) ?_
    first
    | refine Ops.y rfl rfl rfl hst.ctx (Y.fieldAddr fa50_2 rfl) ?_
    | refine Ops.y rfl rfl rfl hst.ctx (Y.fieldAddrP fa50_2 rfl) ?_
    refine Ops.x rfl rfl rfl (X.store hst 0 Try.sizeOf3 rfl rfl rfl rfl (by rw [List.length_append, List.length_append, cells_length hq2]; omega) ((congrArg (List.set _ _) (congrArg (Value.int .i64) (show (q2.count : Int) + 1 = ((q.count + 1 : Nat) : Int) by omega))).trans (set_count ho hq2 (q.count + 1))) rfl ?_)
    clear hst; intro w4 hst
    refine Ops.done rfl ?_
    refine W.seq rfl ?_
    refine W.region rfl ?_
    refine Ops.y rfl rfl rfl hst.ctx (Y.moveB rfl) ?_
    refine Ops.y rfl rfl rfl hst.ctx (Y.not rfl) ?_
    refine Ops.y rfl rfl rfl hst.ctx (Y.assignB rfl) ?_
    refine Ops.done rfl ?_
    refine W.ret rfl ?_
    refine ⟨_, Rslt.one Try.results21 rfl, ?_⟩
    refine ⟨_, rfl, ?_, ?_⟩
    · first | exact (decide_eq_true (by omega)).symm | exact (decide_eq_false (by omega)).symm
    · have e3 : ({ q2 with count := q.count + 1 } : Rw) = r.push s := by rw [hfin, ← h2]; rfl
      rw [← e3]; exact hst

theorem bd53 {S ρ ty} {parts : Array (Nat × Operand)} (hp : parts.toList = []) : Y Try.prog S ρ (.build 53 parts) ty (.agg (lcells (List.replicate 48 zr)).toArray) :=
  Y.build (ps := []) (by rw [hp]; rfl) fun w => by
    simp only [Instr.build, Sem.run_bind, zv53, Result.andThen_ok, run_underlying Try.underlying53]
    simp [go_sem, Instr.fill, Value.cells]
theorem new_any (w0 w : World) (F0 : List Nat) (L G : List Res) (hst : St w0 F0 w L G) :
    Calls Try.prog 9 #[] w fun e w' => ∃ b, e = .returned (.pointer (some ⟨b, 0, none⟩)) ∧ St w0 F0 w' (cellsR b (lcells (List.replicate 48 zr)) 53 :: L) G := by
  refine W.func Try.func9 rfl Try.ntmps9 rfl ?_
  refine W.seq rfl ?_
  refine W.region rfl ?_
  refine Ops.y rfl rfl rfl hst.ctx (Y.assignP rfl) ?_
  refine Ops.done rfl ?_
  refine W.seq rfl ?_
  refine W.region rfl ?_
  refine Ops.y rfl rfl rfl hst.ctx (bd53 rfl) ?_
  refine Ops.x rfl rfl rfl (X.boxA hst rfl ?_)
  clear hst; intro p2 w2 hst
  refine Ops.y rfl rfl rfl hst.ctx (Y.assignP rfl) ?_
  refine Ops.done rfl ?_
  refine W.ret rfl ?_
  refine ⟨_, Rslt.one Try.results9 rfl, ?_⟩
  exact ⟨_, rfl, hst⟩

/-- Where a neighbour's row lies. -/
theorem row_any (b : Nat) (who : Int) (w : World) :
    Calls Try.prog 20 #[.pointer (some ⟨b, 0, none⟩), .int .i64 who] w fun e w' => e = .returned (.pointer (if 0 ≤ who ∧ who < 48 then some ⟨b, who.toNat * 130, none⟩ else none)) ∧ w = w' := by
  refine W.func Try.func20 rfl Try.ntmps20 rfl ?_
  refine W.seq rfl ?_
  refine W.region rfl ?_
  refine Ops.y rfl rfl rfl (any _) (Y.assignP rfl) ?_
  refine Ops.done rfl ?_
  refine W.seq rfl ?_
  refine W.seq rfl ?_
  refine W.region rfl ?_
  refine Ops.y rfl rfl rfl (any _) (Y.moveP rfl) ?_
  refine Ops.y rfl rfl rfl (any _) (Y.isNil Try.underlying25 rfl rfl) ?_
  refine Ops.y rfl rfl rfl (any _) (Y.moveB rfl) ?_
  refine Ops.y rfl rfl rfl (any _) (Y.moveI rfl) ?_
  refine Ops.yb rfl rfl rfl (any _) (Y.lss rfl rfl) (fun b9 hb9 => ?_)
  refine Ops.y rfl rfl rfl (any _) (Y.pick (.bool _) rfl rfl) ?_
  refine Ops.y rfl rfl rfl (any _) (Y.moveB rfl) ?_
  cases b9
  · replace hb9 := of_decide_eq_false hb9.symm
    refine Ops.y rfl rfl rfl (any _) (Y.moveI rfl) ?_
    refine Ops.yb rfl rfl rfl (any _) (Y.geq rfl rfl) (fun b13 hb13 => ?_)
    refine Ops.y rfl rfl rfl (any _) (Y.pick (.bool _) rfl rfl) ?_
    refine Ops.done rfl ?_
    cases b13
    · replace hb13 := of_decide_eq_false hb13.symm
      refine W.condF rfl rfl ?_
      refine W.skip rfl ?_
      refine W.seq rfl ?_
      refine W.region rfl ?_
      refine Ops.y rfl rfl rfl (any _) (Y.moveP rfl) ?_
      refine Ops.y rfl rfl rfl (any _) (Y.moveI rfl) ?_
      refine Ops.y rfl rfl rfl (any _) (Y.nilCheck rfl) ?_
      first
      | refine Ops.y rfl rfl rfl (any _) (Y.fieldAddr fa53_0 rfl) ?_
      | refine Ops.y rfl rfl rfl (any _) (Y.fieldAddrP fa53_0 rfl) ?_
      refine Ops.y rfl rfl rfl (any _) (Y.indexAddrA Try.underlying51 Try.sizeOf50 rfl rfl (by omega)) ?_
      refine Ops.y rfl rfl rfl (any _) (Y.assignP rfl) ?_
      refine Ops.done rfl ?_
      refine W.ret rfl ?_
      refine ⟨_, Rslt.one Try.results20 rfl, ?_⟩
      refine ⟨?_, rfl⟩
      first | (rw [if_neg (by omega)]; rfl) | (rw [if_pos (by omega)]; exact ret_ptr (by omega))
    · replace hb13 := of_decide_eq_true hb13.symm
      refine W.condT rfl rfl ?_
      refine W.seq rfl ?_
      refine W.region rfl ?_
      refine Ops.y rfl rfl rfl (any _) (Y.assignP rfl) ?_
      refine Ops.done rfl ?_
      refine W.ret rfl ?_
      refine ⟨_, Rslt.one Try.results20 rfl, ?_⟩
      refine ⟨?_, rfl⟩
      first | (rw [if_neg (by omega)]; rfl) | (rw [if_pos (by omega)]; exact ret_ptr (by omega))
  · replace hb9 := of_decide_eq_true hb9.symm
    refine Ops.no rfl rfl rfl ?_
    refine Ops.no rfl rfl rfl ?_
    refine Ops.y rfl rfl rfl (any _) (Y.pick (.bool _) rfl rfl) ?_
    refine Ops.done rfl ?_
    refine W.condT rfl rfl ?_
    refine W.seq rfl ?_
    refine W.region rfl ?_
    refine Ops.y rfl rfl rfl (any _) (Y.assignP rfl) ?_
    refine Ops.done rfl ?_
    refine W.ret rfl ?_
    refine ⟨_, Rslt.one Try.results20 rfl, ?_⟩
    refine ⟨?_, rfl⟩
    first | (rw [if_neg (by omega)]; rfl) | (rw [if_pos (by omega)]; exact ret_ptr (by omega))

theorem row_nil (who : Int) (w : World) :
    Calls Try.prog 20 #[.pointer none, .int .i64 who] w fun e w' => e = .returned (.pointer none) ∧ w = w' := by
  refine W.func Try.func20 rfl Try.ntmps20 rfl ?_
  refine W.seq rfl ?_
  refine W.region rfl ?_
  refine Ops.y rfl rfl rfl (any _) (Y.assignP rfl) ?_
  refine Ops.done rfl ?_
  refine W.seq rfl ?_
  refine W.seq rfl ?_
  refine W.region rfl ?_
  refine Ops.y rfl rfl rfl (any _) (Y.moveP rfl) ?_
  refine Ops.y rfl rfl rfl (any _) (Y.isNil Try.underlying25 rfl rfl) ?_
  refine Ops.y rfl rfl rfl (any _) (Y.moveB rfl) ?_
  refine Ops.no rfl rfl rfl ?_
  refine Ops.no rfl rfl rfl ?_
  refine Ops.y rfl rfl rfl (any _) (Y.pick (.bool _) rfl rfl) ?_
  refine Ops.y rfl rfl rfl (any _) (Y.moveB rfl) ?_
  refine Ops.no rfl rfl rfl ?_
  refine Ops.no rfl rfl rfl ?_
  refine Ops.y rfl rfl rfl (any _) (Y.pick (.bool _) rfl rfl) ?_
  refine Ops.done rfl ?_
  refine W.condT rfl rfl ?_
  refine W.seq rfl ?_
  refine W.region rfl ?_
  refine Ops.y rfl rfl rfl (any _) (Y.assignP rfl) ?_
  refine Ops.done rfl ?_
  refine W.ret rfl ?_
  refine ⟨_, Rslt.one Try.results20 rfl, ?_⟩
  exact ⟨rfl, rfl⟩
end Go.Proofs.Ytcafmbbimoddjaa.LN
