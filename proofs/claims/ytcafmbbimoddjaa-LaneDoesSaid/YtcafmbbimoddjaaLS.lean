/- The reference's lanes: plain, and their walks. -/
import Derived.Test.YtcafmbbimoddjaaLR
import Derived.Test.YtcafmbbimoddjaaE2
set_option linter.unusedVariables false
set_option linter.unusedSimpArgs false
namespace Go.Proofs.Ytcafmbbimoddjaa.LN
open Go.RowKit Go.Proofs.Ytcafmbbimoddjaa.K

structure RI where
  who : Int
  s : ByteArray
  age : Int
@[reducible] def ric (x : RI) : List Value := [.int .i64 x.who, .string x.s, .int .i64 x.age]
def ics (l : List RI) : List Value := l.flatMap ric
def ri0 : RI := ⟨0, ⟨#[]⟩, 0⟩
theorem ics_length (l : List RI) : (ics l).length = l.length * 3 := by
  induction l with
  | nil => rfl
  | cons x l ih => simp [ics] at ih ⊢; omega
theorem ics_cons (x : RI) (l : List RI) : ics (x :: l) = .int .i64 x.who :: .string x.s :: .int .i64 x.age :: ics l := rfl
theorem ics_append (l m : List RI) : ics (l ++ m) = ics l ++ ics m := by simp [ics]
theorem ics_at : ∀ (l : List RI) (k : Nat), k < l.length → ((ics l).drop ((k : Int).toNat * 3)).take 3 = ric (l.getD k ri0)
  | [], k, h => by simp at h
  | x :: l, 0, h => rfl
  | x :: l, k + 1, h => by
    have ih := ics_at l k (by simpa using h)
    rw [Int.toNat_natCast] at ih ⊢
    rw [ics_cons, show (k + 1) * 3 = k * 3 + 1 + 1 + 1 by omega]
    simp only [List.drop_succ_cons, List.getD_cons_succ]
    exact ih
theorem ics_take (l : List RI) : ∀ k, (ics l).take (k * 3) = ics (l.take k) := by
  induction l with
  | nil => intro k; simp [ics]
  | cons x l ih =>
    intro k
    cases k with
    | zero => simp [ics]
    | succ k =>
      rw [ics_cons, show (k + 1) * 3 = k * 3 + 1 + 1 + 1 by omega]
      simp only [List.take_succ_cons, ics_cons, ih]
theorem ics_drop (l : List RI) : ∀ k, (ics l).drop (k * 3) = ics (l.drop k) := by
  induction l with
  | nil => intro k; simp [ics]
  | cons x l ih =>
    intro k
    cases k with
    | zero => simp [ics]
    | succ k =>
      rw [ics_cons, show (k + 1) * 3 = k * 3 + 1 + 1 + 1 by omega]
      simp only [List.drop_succ_cons, ih]
theorem ics_ones (l : List RI) : ∀ u ∈ ics l, u.oneCell' = true := by
  intro u hu
  obtain ⟨x, _, hx⟩ := List.mem_flatMap.1 hu
  simp [ric] at hx
  rcases hx with rfl | rfl | rfl <;> rfl
def of_ (who : Int) (l : List RI) : List RI := l.filter fun x => decide (x.who = who)
def rpop (who : Int) : List RI → List RI
  | [] => []
  | x :: l => if x.who = who then l else x :: rpop who l
def rtick (most : Int) (l : List RI) : List RI := (l.map fun x => { x with age := x.age + 1 }).filter fun x => decide (x.age ≤ most)
def rpush (who : Int) (s : ByteArray) (l : List RI) : List RI := (if (of_ who l).length = 64 then rpop who l else l) ++ [⟨who, s, 0⟩]
theorem getD_snoc {l : List RI} {k : Nat} (h : k < l.length) : l.take (k + 1) = l.take k ++ [l.getD k ri0] := by rw [List.take_succ_eq_append_getElem h, List.getD_eq_getElem?_getD, List.getElem?_eq_getElem h]; rfl
theorem of_snoc {who : Int} {l : List RI} {k : Nat} (h : k < l.length) : of_ who (l.take (k + 1)) = of_ who (l.take k) ++ (if (l.getD k ri0).who = who then [l.getD k ri0] else []) := by
  rw [getD_snoc h]
  generalize l.getD k ri0 = x
  unfold of_
  rw [List.filter_append]
  congr 1
  by_cases e : x.who = who <;> simp [e]
theorem of_len (who : Int) (l : List RI) : (of_ who l).length ≤ l.length := List.length_filter_le _ _
theorem rpop_at {who : Int} : ∀ {l : List RI} {k : Nat}, k < l.length → (∀ j, j < k → (l.getD j ri0).who ≠ who) → (l.getD k ri0).who = who → rpop who l = l.take k ++ l.drop (k + 1)
  | [], k, h, _, _ => by simp at h
  | x :: l, 0, h, _, h2 => by simp at h2; simp [rpop, h2]
  | x :: l, k + 1, h, h1, h2 => by
    have h0 := h1 0 (by omega)
    simp at h0
    simp only [rpop, if_neg h0, List.take_succ_cons, List.cons_append, List.drop_succ_cons]
    rw [rpop_at (k := k) (by simpa using h) (fun j hj => by have := h1 (j + 1) (by omega); simpa using this) (by simpa using h2)]
theorem of_at {who : Int} {l : List RI} {k : Nat} (h : k < l.length) (h1 : ∀ j, j < k → (l.getD j ri0).who ≠ who) (h2 : (l.getD k ri0).who = who) : (of_ who l).head? = some (l.getD k ri0) := by
  have e : l = l.take k ++ l.getD k ri0 :: l.drop (k + 1) := by rw [List.getD_eq_getElem?_getD, List.getElem?_eq_getElem h, Option.getD_some, ← List.drop_eq_getElem_cons h, List.take_append_drop]
  have h3 : (l.take k).filter (fun x => decide (x.who = who)) = [] := by
    rw [List.filter_eq_nil_iff]
    intro x hx
    obtain ⟨j, hj, rfl⟩ := List.mem_iff_getElem.1 hx
    rw [List.length_take] at hj
    have := h1 j (by omega)
    rw [List.getD_eq_getElem?_getD, List.getElem?_eq_getElem (by omega)] at this
    simpa using this
  unfold of_
  rw [e, List.filter_append, h3, List.nil_append, List.filter_cons, ← e]
  simp only [h2]
  simp
theorem of_none {who : Int} {l : List RI} (h1 : ∀ j, j < l.length → (l.getD j ri0).who ≠ who) : of_ who l = [] ∧ rpop who l = l := by
  constructor
  · unfold of_
    rw [List.filter_eq_nil_iff]
    intro x hx
    obtain ⟨j, hj, rfl⟩ := List.mem_iff_getElem.1 hx
    have := h1 j hj
    rw [List.getD_eq_getElem?_getD, List.getElem?_eq_getElem hj] at this
    simpa using this
  · induction l with
    | nil => rfl
    | cons x l ih =>
      have h0 := h1 0 (by simp)
      simp at h0
      simp only [rpop, if_neg h0]
      rw [ih (fun j hj => by have := h1 (j + 1) (by simpa using hj); simpa using this)]
theorem rpop_len (who : Int) (l : List RI) : (rpop who l).length ≤ l.length := by
  induction l with
  | nil => exact Nat.le_refl _
  | cons x l ih => unfold rpop; split <;> simp <;> omega
theorem rtick_snoc {most : Int} {l : List RI} {k : Nat} (h : k < l.length) : rtick most (l.take (k + 1)) = rtick most (l.take k) ++ (if (l.getD k ri0).age + 1 ≤ most then [{ l.getD k ri0 with age := (l.getD k ri0).age + 1 }] else []) := by
  rw [getD_snoc h]
  generalize l.getD k ri0 = x
  unfold rtick
  rw [List.map_append, List.filter_append]
  congr 1
  by_cases e : x.age + 1 ≤ most <;> simp [e]
theorem rtick_len (most : Int) (l : List RI) : (rtick most l).length ≤ l.length := by
  unfold rtick
  have := List.length_filter_le (fun x : RI => decide (x.age ≤ most)) (l.map fun x => { x with age := x.age + 1 })
  simpa using this
theorem getD_memR {l : List RI} {k : Nat} (h : k < l.length) : l.getD k ri0 ∈ l := by rw [List.getD_eq_getElem?_getD, List.getElem?_eq_getElem h]; simp
theorem bd42_ {S ρ ty} {parts : Array (Nat × Operand)}  (hp : (parts.toList.map fun x => (x.1, ev ρ x.2)) = []) : Y Try.prog S ρ (.build 42 parts) ty (.agg #[Value.int .i64 0, Value.string ⟨#[]⟩, Value.int .i64 0]) :=
  Y.build hp fun w => by simp [Instr.build, go_sem]
theorem bd42_0_1 {S ρ ty} {parts : Array (Nat × Operand)} {x0 : Int} {x1 : ByteArray} (hp : (parts.toList.map fun x => (x.1, ev ρ x.2)) = [(0, Value.int .i64 x0), (1, Value.string x1)]) : Y Try.prog S ρ (.build 42 parts) ty (.agg #[Value.int .i64 x0, Value.string x1, Value.int .i64 0]) :=
  Y.build hp fun w => by simp [Instr.build, go_sem]
theorem fa36_0 (a : Addr) (w : World) : (Instr.fieldAt 36 (.pointer (some a)) 0).run Try.prog w = .ok (.pointer (some (a.add 0))) w := by
  simp [Instr.fieldAt, Instr.sureAddr, go_sem]
theorem fa42_0 (a : Addr) (w : World) : (Instr.fieldAt 42 (.pointer (some a)) 0).run Try.prog w = .ok (.pointer (some (a.add 0))) w := by
  simp [Instr.fieldAt, Instr.sureAddr, go_sem]
theorem fa42_2 (a : Addr) (w : World) : (Instr.fieldAt 42 (.pointer (some a)) 2).run Try.prog w = .ok (.pointer (some (a.add 2))) w := by
  simp [Instr.fieldAt, Instr.sureAddr, go_sem]
theorem cf15 : ∀ args w, (callFunc 15 args).run Try.prog w = .ok (.enter 15 args) w := fun _ _ => by simp [go_sem]
theorem cf19 : ∀ args w, (callFunc 19 args).run Try.prog w = .ok (.enter 19 args) w := fun _ _ => by simp [go_sem]
theorem cf24 : ∀ args w, (callFunc 24 args).run Try.prog w = .ok (.enter 24 args) w := fun _ _ => by simp [go_sem]

theorem rdsT {L G : List Res} {A : Option Addr} {cp k : Nat} {R : List RI} (h : Rds L G (.slice A R.length cp) R.length (ics R)) (hk : k ≤ R.length) : Rds L G (.slice A k cp) k (ics (R.take k)) := ics_take R k ▸ h.takeN (ics_length R) hk
theorem rdsD {L G : List Res} {A : Option Addr} {cp k : Nat} {R : List RI} (h : Rds L G (.slice A R.length cp) R.length (ics R)) (hk : k ≤ R.length) : Rds L G (.slice (resl A cp k 3) (R.length - k) (cp - k)) (R.length - k) (ics (R.drop k)) := ics_drop R k ▸ h.dropN (ics_length R) hk
theorem infoRI : (Try.prog.info? 42).map (fun i => (i.zero, i.size, i.bytes)) = some (some (Value.agg #[.int .i64 0, .string ⟨#[]⟩, .int .i64 0]), 3, 32) := by kernel_rfl
theorem near_any (who : Int) (w : World) : Calls Try.prog 24 #[.int .i64 who] w fun e w' => ∃ b, e = .returned (.bool b) ∧ b = decide (inR who) ∧ w = w' := by
  refine W.func Try.func24 rfl Try.ntmps24 rfl ?_
  refine W.seq rfl ?_
  refine W.region rfl ?_
  refine Ops.y rfl rfl rfl (any _) (Y.assignB rfl) ?_
  refine Ops.done rfl ?_
  refine W.seq rfl ?_
  refine W.region rfl ?_
  refine Ops.y rfl rfl rfl (any _) (Y.moveI rfl) ?_
  refine Ops.yb rfl rfl rfl (any _) (Y.geq rfl rfl) (fun b4 hb4 => ?_)
  refine Ops.y rfl rfl rfl (any _) (Y.moveB rfl) ?_
  cases b4
  · replace hb4 := of_decide_eq_false hb4.symm
    refine Ops.no rfl rfl rfl ?_
    refine Ops.no rfl rfl rfl ?_
    refine Ops.y rfl rfl rfl (any _) (Y.pick (.bool _) rfl rfl) ?_
    refine Ops.y rfl rfl rfl (any _) (Y.assignB rfl) ?_
    refine Ops.done rfl ?_
    refine W.ret rfl ?_
    refine ⟨_, Rslt.one Try.results24 rfl, ?_⟩
    exact ⟨_, rfl, by first | exact (decide_eq_true (by unfold inR; omega)).symm | exact (decide_eq_false (by unfold inR; omega)).symm, rfl⟩
  · replace hb4 := of_decide_eq_true hb4.symm
    refine Ops.y rfl rfl rfl (any _) (Y.moveI rfl) ?_
    refine Ops.yb rfl rfl rfl (any _) (Y.leq rfl rfl) (fun b7 hb7 => ?_)
    refine Ops.y rfl rfl rfl (any _) (Y.pick (.bool _) rfl rfl) ?_
    refine Ops.y rfl rfl rfl (any _) (Y.assignB rfl) ?_
    refine Ops.done rfl ?_
    refine W.ret rfl ?_
    cases b7
    · replace hb7 := of_decide_eq_false hb7.symm
      refine ⟨_, Rslt.one Try.results24 rfl, ?_⟩
      exact ⟨_, rfl, by first | exact (decide_eq_true (by unfold inR; omega)).symm | exact (decide_eq_false (by unfold inR; omega)).symm, rfl⟩
    · replace hb7 := of_decide_eq_true hb7.symm
      refine ⟨_, Rslt.one Try.results24 rfl, ?_⟩
      exact ⟨_, rfl, by first | exact (decide_eq_true (by unfold inR; omega)).symm | exact (decide_eq_false (by unfold inR; omega)).symm, rfl⟩

set_option maxHeartbeats 1000000 in
theorem rLen_any (who : Int) (m : Nat) (v : Value) (R : List RI) (w0 w : World) (F0 : List Nat) (L G : List Res) (hst : St w0 F0 w (cellsR m [v] 36 :: slR v R.length (ics R) :: L) G) (hl : R.length ≤ 4000) :
    Calls Try.prog 19 #[.pointer (some ⟨m, 0, none⟩), .int .i64 who] w fun e w' => e = .returned (.int .i64 ((of_ who R).length : Int)) ∧ St w0 F0 w' (cellsR m [v] 36 :: slR v R.length (ics R) :: L) G := by
  obtain ⟨A, cap, rfl, hcap, -⟩ := (Rds.slL 1 rfl : Rds (cellsR m [v] 36 :: slR v R.length (ics R) :: L) G v R.length (ics R)).sl hst
  refine W.func Try.func19 rfl Try.ntmps19 rfl ?_
  refine W.seq rfl ?_
  refine W.region rfl ?_
  refine Ops.y rfl rfl rfl hst.ctx (Y.assignI rfl) ?_
  refine Ops.done rfl ?_
  refine W.seq rfl ?_
  refine W.region rfl ?_
  refine Ops.y rfl rfl rfl hst.ctx (Y.assignI rfl) ?_
  refine Ops.done rfl ?_
  refine W.seq rfl ?_
  refine W.seq rfl ?_
  refine W.region rfl ?_
  refine Ops.y rfl rfl rfl hst.ctx (Y.moveP rfl) ?_
  refine Ops.y rfl rfl rfl hst.ctx (Y.nilCheck rfl) ?_
  first
  | refine Ops.y rfl rfl rfl hst.ctx (Y.fieldAddr fa36_0 rfl) ?_
  | refine Ops.y rfl rfl rfl hst.ctx (Y.fieldAddrP fa36_0 rfl) ?_
  refine Ops.y rfl rfl rfl hst.ctx (Y.load 0 Try.isAgg34 rfl rfl rfl) ?_
  refine Ops.y rfl rfl rfl hst.ctx (Y.lenS Try.underlying34 rfl) ?_
  refine Ops.y rfl rfl rfl hst.ctx (Y.moveI rfl) ?_
  refine Ops.done rfl ?_
  refine W.block rfl ?_
  refine W.loop (γ := Nat) [(1, .int _ _), (11, .slice _ _ _), (12, .int _ _)] (fun k => [(5, .int .i64 ((of_ who (R.take k)).length : Int)), (13, .int .i64 (k : Int))]) (fun k w => k ≤ R.length ∧ St w0 F0 w (cellsR m [.slice A R.length cap] 36 :: slR (.slice A R.length cap) R.length (ics R) :: L) G) (fun k => R.length - k) (0) rfl ⟨rfl, rfl, rfl, trivial⟩ ?_ ?_ ?_
  · exact ⟨rfl, rfl, trivial⟩
  · exact ⟨by omega, hst⟩
  · clear hst; rintro k j w3 ⟨hk, hst⟩
    have hol := of_len who (R.take k)
    rw [List.length_take] at hol
    refine W.seq rfl ?_
    refine W.region rfl ?_
    refine Ops.yb rfl rfl rfl hst.ctx (Y.lss rfl rfl) (fun b14 hb14 => ?_)
    refine Ops.done rfl ?_
    refine W.seq rfl ?_
    cases b14
    · replace hb14 := of_decide_eq_false hb14.symm
      refine W.condF rfl rfl ?_
      refine W.exit rfl ?_
      refine W.seq rfl ?_
      refine W.region rfl ?_
      refine Ops.y rfl rfl rfl hst.ctx (Y.moveI rfl) ?_
      refine Ops.y rfl rfl rfl hst.ctx (Y.assignI rfl) ?_
      refine Ops.done rfl ?_
      refine W.ret rfl ?_
      refine ⟨_, Rslt.one Try.results19 rfl, ?_⟩
      exact ⟨ret_int (by rw [List.take_of_length_le (by omega)]), hst⟩
    · replace hb14 := of_decide_eq_true hb14.symm
      refine W.condT rfl rfl ?_
      refine W.skip rfl ?_
      refine W.seq rfl ?_
      refine W.block rfl ?_
      refine W.seq rfl ?_
      refine W.region rfl ?_
      have hk1 : k < R.length := by omega
      refine Ops.y rfl rfl rfl hst.ctx (Y.indexAddr Try.underlying34 Try.sizeOf42 rfl rfl ((Rds.sl (Rds.slL 1 rfl) hst).ne (by rw [ics_length]; omega)) (by omega)) ?_
      refine Ops.y rfl rfl rfl hst.ctx (Y.loadSlA Try.isAgg42 Try.sizeOf42 rfl (Rds.slL 1 rfl) (ics_at R k hk1) rfl) ?_
      refine Ops.x rfl rfl rfl (X.allocA hst Try.zeroValue42 ?_)
      clear hst; intro p7 w7 hst
      first
      | refine Ops.x rfl rfl rfl (X.storeS hst 0 Try.sizeOf42 rfl rfl rfl rfl rfl (Nat.le_of_ble_eq_true rfl) rfl rfl ?_)
      | refine Ops.x rfl rfl rfl (X.storeS hst 1 Try.sizeOf42 rfl rfl rfl rfl rfl (Nat.le_of_ble_eq_true rfl) rfl rfl ?_)
      clear hst; intro w4_3 hst
      try simp only [List.set_cons_zero, List.set_cons_succ, Nat.zero_add, Nat.reduceAdd, splice, List.take, List.drop, List.append_eq, List.nil_append, List.cons_append, List.length_cons, List.length_nil] at hst
      refine Ops.done rfl ?_
      refine W.seq rfl ?_
      refine W.region rfl ?_
      first
      | refine Ops.y rfl rfl rfl hst.ctx (Y.fieldAddr fa42_0 rfl) ?_
      | refine Ops.y rfl rfl rfl hst.ctx (Y.fieldAddrP fa42_0 rfl) ?_
      first
      | refine Ops.y rfl rfl rfl hst.ctx (Y.load 0 Try.isAgg3 rfl rfl rfl) ?_
      | refine Ops.y rfl rfl rfl hst.ctx (Y.load 1 Try.isAgg3 rfl rfl rfl) ?_
      refine Ops.y rfl rfl rfl hst.ctx (Y.moveI rfl) ?_
      refine Ops.yb rfl rfl rfl hst.ctx (Y.eql rfl rfl) (fun b20 hb20 => ?_)
      refine Ops.done rfl ?_
      cases b20
      · replace hb20 := of_decide_eq_false hb20.symm
        refine W.condF rfl rfl ?_
        refine W.skip rfl ?_
        refine W.region rfl ?_
        refine Ops.y rfl rfl rfl hst.ctx (Y.addI rfl rfl (by omega)) ?_
        refine Ops.y rfl rfl rfl hst.ctx (Y.moveI rfl) ?_
        refine Ops.done rfl ?_
        have hsn := of_snoc (who := who) hk1
        first
        | (rw [if_neg (by assumption)] at hsn
           have hg5 : Value.int .i64 ((of_ who (R.take k)).length : Int) = Value.int .i64 ((of_ who (R.take (k + 1))).length : Int) := by rw [hsn, List.append_nil]
           exact ⟨k + 1, ⟨hg5, rfl, trivial⟩, ⟨rfl, rfl, rfl, trivial⟩, ⟨by omega, hst.drop⟩, by omega⟩)
        | (rw [if_pos (by assumption)] at hsn
           have hg5 : Value.int .i64 ((of_ who (R.take k)).length + 1 : Int) = Value.int .i64 ((of_ who (R.take (k + 1))).length : Int) := by rw [hsn, List.length_append]; rfl
           exact ⟨k + 1, ⟨hg5, rfl, trivial⟩, ⟨rfl, rfl, rfl, trivial⟩, ⟨by omega, hst.drop⟩, by omega⟩)
      · replace hb20 := of_decide_eq_true hb20.symm
        refine W.condT rfl rfl ?_
        refine W.region rfl ?_
        refine Ops.y rfl rfl rfl hst.ctx (Y.moveI rfl) ?_
        refine Ops.y rfl rfl rfl hst.ctx (Y.addI rfl rfl (by omega)) ?_
        refine Ops.y rfl rfl rfl hst.ctx (Y.assignI rfl) ?_
        refine Ops.done rfl ?_
        refine W.region rfl ?_
        refine Ops.y rfl rfl rfl hst.ctx (Y.addI rfl rfl (by omega)) ?_
        refine Ops.y rfl rfl rfl hst.ctx (Y.moveI rfl) ?_
        refine Ops.done rfl ?_
        have hsn := of_snoc (who := who) hk1
        first
        | (rw [if_neg (by assumption)] at hsn
           have hg5 : Value.int .i64 ((of_ who (R.take k)).length : Int) = Value.int .i64 ((of_ who (R.take (k + 1))).length : Int) := by rw [hsn, List.append_nil]
           exact ⟨k + 1, ⟨hg5, rfl, trivial⟩, ⟨rfl, rfl, rfl, trivial⟩, ⟨by omega, hst.drop⟩, by omega⟩)
        | (rw [if_pos (by assumption)] at hsn
           have hg5 : Value.int .i64 ((of_ who (R.take k)).length + 1 : Int) = Value.int .i64 ((of_ who (R.take (k + 1))).length : Int) := by rw [hsn, List.length_append]; rfl
           exact ⟨k + 1, ⟨hg5, rfl, trivial⟩, ⟨rfl, rfl, rfl, trivial⟩, ⟨by omega, hst.drop⟩, by omega⟩)

set_option maxHeartbeats 2000000 in
theorem rPop_any (who : Int) (m : Nat) (v : Value) (R : List RI) (w0 w : World) (F0 : List Nat) (L G : List Res) (hst : St w0 F0 w (cellsR m [v] 36 :: slR v R.length (ics R) :: L) G) (hl : R.length ≤ 4000) :
    Calls Try.prog 15 #[.pointer (some ⟨m, 0, none⟩), .int .i64 who] w fun e w' => ∃ x b, e = .returned (.tuple #[.agg #[.int .i64 x.who, .string x.s, .int .i64 x.age], .bool b]) ∧ (b = decide (of_ who R ≠ []) ∧ x = (of_ who R).headD ri0) ∧ ∃ v', St w0 F0 w' (cellsR m [v'] 36 :: slR v' (rpop who R).length (ics (rpop who R)) :: L) G := by
  obtain ⟨A, cap, rfl, hcap, -⟩ := (Rds.slL 1 rfl : Rds (cellsR m [v] 36 :: slR v R.length (ics R) :: L) G v R.length (ics R)).sl hst
  refine W.func Try.func15 rfl Try.ntmps15 rfl ?_
  refine W.seq rfl ?_
  refine W.region rfl ?_
  refine Ops.x rfl rfl rfl (X.allocA hst Try.zeroValue42 ?_)
  clear hst; intro p4 w4 hst
  refine Ops.y rfl rfl rfl hst.ctx (Y.assignB rfl) ?_
  refine Ops.done rfl ?_
  refine W.seq rfl ?_
  refine W.seq rfl ?_
  refine W.region rfl ?_
  refine Ops.y rfl rfl rfl hst.ctx (Y.moveP rfl) ?_
  refine Ops.y rfl rfl rfl hst.ctx (Y.nilCheck rfl) ?_
  first
  | refine Ops.y rfl rfl rfl hst.ctx (Y.fieldAddr fa36_0 rfl) ?_
  | refine Ops.y rfl rfl rfl hst.ctx (Y.fieldAddrP fa36_0 rfl) ?_
  first
  | refine Ops.y rfl rfl rfl hst.ctx (Y.load 0 Try.isAgg34 rfl rfl rfl) ?_
  | refine Ops.y rfl rfl rfl hst.ctx (Y.load 1 Try.isAgg34 rfl rfl rfl) ?_
  | refine Ops.y rfl rfl rfl hst.ctx (Y.load 2 Try.isAgg34 rfl rfl rfl) ?_
  | refine Ops.y rfl rfl rfl hst.ctx (Y.load 2 Try.isAgg34 rfl rfl rfl) ?_
  refine Ops.y rfl rfl rfl hst.ctx (Y.lenS Try.underlying34 rfl) ?_
  refine Ops.y rfl rfl rfl hst.ctx (Y.moveI rfl) ?_
  refine Ops.done rfl ?_
  refine W.block rfl ?_
  refine W.loop (γ := Nat) [(0, .pointer _), (1, .int _ _), (4, .pointer _), (11, .slice _ _ _), (12, .int _ _)] (fun k => [(13, .int .i64 (k : Int))]) (fun k w => k ≤ R.length ∧ (∀ j, j < k → (R.getD j ri0).who ≠ who) ∧ St w0 F0 w (cellsR p4 [.int .i64 0, .string ⟨#[]⟩, .int .i64 0] 42 :: cellsR m [.slice A R.length cap] 36 :: slR (.slice A R.length cap) R.length (ics R) :: L) G) (fun k => R.length - k) (0) rfl ⟨rfl, rfl, rfl, rfl, rfl, trivial⟩ ?_ ?_ ?_
  · exact ⟨rfl, trivial⟩
  · exact ⟨by omega, fun j hj => by omega, hst⟩
  · clear hst; rintro k j w3 ⟨hk, hno, hst⟩
    refine W.seq rfl ?_
    refine W.region rfl ?_
    refine Ops.yb rfl rfl rfl hst.ctx (Y.lss rfl rfl) (fun b14 hb14 => ?_)
    refine Ops.done rfl ?_
    refine W.seq rfl ?_
    cases b14
    · replace hb14 := of_decide_eq_false hb14.symm
      refine W.condF rfl rfl ?_
      refine W.exit rfl ?_
      refine W.seq rfl ?_
      refine W.region rfl ?_
      refine Ops.y rfl rfl rfl hst.ctx (bd42_ rfl) ?_
      first
      | refine Ops.x rfl rfl rfl (X.storeS hst 0 Try.sizeOf42 rfl rfl rfl rfl rfl (Nat.le_of_ble_eq_true rfl) rfl rfl ?_)
      | refine Ops.x rfl rfl rfl (X.storeS hst 1 Try.sizeOf42 rfl rfl rfl rfl rfl (Nat.le_of_ble_eq_true rfl) rfl rfl ?_)
      | refine Ops.x rfl rfl rfl (X.storeS hst 2 Try.sizeOf42 rfl rfl rfl rfl rfl (Nat.le_of_ble_eq_true rfl) rfl rfl ?_)
      clear hst; intro w8_1 hst
      try simp only [List.set_cons_zero, List.set_cons_succ, Nat.zero_add, Nat.reduceAdd, splice, List.take, List.drop, List.append_eq, List.nil_append, List.cons_append, List.length_cons, List.length_nil] at hst
      refine Ops.y rfl rfl rfl hst.ctx (Y.assignB rfl) ?_
      refine Ops.done rfl ?_
      refine W.ret rfl ?_
      refine ⟨_, Rslt.cellTmp Try.results15 rfl (run_load_agg Try.isAgg42 Try.sizeOf42 rfl (fun j v h => by rw [add_lit', hst.cell (.inl (List.Mem.head _)) (0 + j), Nat.zero_add]; exact h)) rfl, ?_⟩
      have hno2 := of_none (who := who) (fun j hj => hno j (by omega))
      rw [hno2.2]
      exact ⟨ri0, _, rfl, ⟨by rw [hno2.1]; rfl, by rw [hno2.1]; rfl⟩, _, hst.drop⟩
    · replace hb14 := of_decide_eq_true hb14.symm
      refine W.condT rfl rfl ?_
      refine W.skip rfl ?_
      refine W.seq rfl ?_
      refine W.block rfl ?_
      refine W.seq rfl ?_
      refine W.region rfl ?_
      have hk1 : k < R.length := by omega
      refine Ops.y rfl rfl rfl hst.ctx (Y.moveI rfl) ?_
      refine Ops.y rfl rfl rfl hst.ctx (Y.indexAddr Try.underlying34 Try.sizeOf42 rfl rfl ((Rds.sl (Rds.slL 2 rfl) hst).ne (by rw [ics_length]; omega)) (by omega)) ?_
      refine Ops.y rfl rfl rfl hst.ctx (Y.loadSlA Try.isAgg42 Try.sizeOf42 rfl (Rds.slL 2 rfl) (ics_at R k hk1) rfl) ?_
      refine Ops.x rfl rfl rfl (X.allocA hst Try.zeroValue42 ?_)
      clear hst; intro p7 w7 hst
      refine Ops.y rfl rfl rfl hst.ctx (Y.assignI rfl) ?_
      first
      | refine Ops.x rfl rfl rfl (X.storeS hst 0 Try.sizeOf42 rfl rfl rfl rfl rfl (Nat.le_of_ble_eq_true rfl) rfl rfl ?_)
      | refine Ops.x rfl rfl rfl (X.storeS hst 1 Try.sizeOf42 rfl rfl rfl rfl rfl (Nat.le_of_ble_eq_true rfl) rfl rfl ?_)
      | refine Ops.x rfl rfl rfl (X.storeS hst 2 Try.sizeOf42 rfl rfl rfl rfl rfl (Nat.le_of_ble_eq_true rfl) rfl rfl ?_)
      | refine Ops.x rfl rfl rfl (X.storeS hst 3 Try.sizeOf42 rfl rfl rfl rfl rfl (Nat.le_of_ble_eq_true rfl) rfl rfl ?_)
      clear hst; intro w3_5 hst
      try simp only [List.set_cons_zero, List.set_cons_succ, Nat.zero_add, Nat.reduceAdd, splice, List.take, List.drop, List.append_eq, List.nil_append, List.cons_append, List.length_cons, List.length_nil] at hst
      refine Ops.done rfl ?_
      refine W.seq rfl ?_
      refine W.region rfl ?_
      first
      | refine Ops.y rfl rfl rfl hst.ctx (Y.fieldAddr fa42_0 rfl) ?_
      | refine Ops.y rfl rfl rfl hst.ctx (Y.fieldAddrP fa42_0 rfl) ?_
      first
      | refine Ops.y rfl rfl rfl hst.ctx (Y.load 0 Try.isAgg3 rfl rfl rfl) ?_
      | refine Ops.y rfl rfl rfl hst.ctx (Y.load 1 Try.isAgg3 rfl rfl rfl) ?_
      | refine Ops.y rfl rfl rfl hst.ctx (Y.load 2 Try.isAgg3 rfl rfl rfl) ?_
      | refine Ops.y rfl rfl rfl hst.ctx (Y.load 3 Try.isAgg3 rfl rfl rfl) ?_
      | refine Ops.y rfl rfl rfl hst.ctx (Y.load 2 Try.isAgg34 rfl rfl rfl) ?_
      refine Ops.y rfl rfl rfl hst.ctx (Y.moveI rfl) ?_
      refine Ops.yb rfl rfl rfl hst.ctx (Y.eql rfl rfl) (fun b21 hb21 => ?_)
      refine Ops.done rfl ?_
      cases b21
      · replace hb21 := of_decide_eq_false hb21.symm
        refine W.condF rfl rfl ?_
        refine W.skip rfl ?_
        refine W.region rfl ?_
        refine Ops.y rfl rfl rfl hst.ctx (Y.addI rfl rfl (by omega)) ?_
        refine Ops.y rfl rfl rfl hst.ctx (Y.moveI rfl) ?_
        refine Ops.done rfl ?_
        exact ⟨k + 1, ⟨rfl, trivial⟩, ⟨rfl, rfl, rfl, rfl, rfl, trivial⟩, ⟨by omega, fun j hj => by rcases Nat.lt_succ_iff_lt_or_eq.1 hj with h | h; exact hno j h; subst h; assumption, hst.drop⟩, by omega⟩
      · replace hb21 := of_decide_eq_true hb21.symm
        refine W.condT rfl rfl ?_
        refine W.seq rfl ?_
        refine W.drawn rfl (by kernel_rfl) (Ctx _ _ (_) (_)) [19] [(0, 0), (2, 0), (3, 0), (4, 0), (5, 0), (6, 0), (7, 0), (9, 0), (10, 0), (11, 0), (12, 0), (13, 0), (14, 0), (15, 0), (1, 1), (8, 1), (16, 1), (17, 2), (18, 0), (19, 1)] rfl (by kernel_rfl) hst.drew.ctx ?_
        replace hst := hst.drew
        generalize World.drew _ = wd at hst ⊢
        have htl : (R.take k).length = k := by rw [List.length_take]; omega
        have hdl : (R.drop (k + 1)).length = R.length - (k + 1) := List.length_drop ..
        have hxe : rpop who R = R.take k ++ R.drop (k + 1) := rpop_at hk1 hno (by assumption)
        have hhd := of_at hk1 hno (by assumption)
        refine Drw.y rfl rfl rfl hst.ctx (Y.moveP rfl) ?_
        refine Drw.y rfl rfl rfl hst.ctx (Y.moveP rfl) ?_
        refine Drw.y rfl rfl rfl hst.ctx (Y.nilCheck rfl) ?_
        first
        | refine Drw.y rfl rfl rfl hst.ctx (Y.fieldAddr fa36_0 rfl) ?_
        | refine Drw.y rfl rfl rfl hst.ctx (Y.fieldAddrP fa36_0 rfl) ?_
        first
        | refine Drw.y rfl rfl rfl hst.ctx (Y.load 0 Try.isAgg34 rfl rfl rfl) ?_
        | refine Drw.y rfl rfl rfl hst.ctx (Y.load 1 Try.isAgg34 rfl rfl rfl) ?_
        | refine Drw.y rfl rfl rfl hst.ctx (Y.load 2 Try.isAgg34 rfl rfl rfl) ?_
        | refine Drw.y rfl rfl rfl hst.ctx (Y.load 3 Try.isAgg34 rfl rfl rfl) ?_
        | refine Drw.y rfl rfl rfl hst.ctx (Y.load 2 Try.isAgg34 rfl rfl rfl) ?_
        refine Drw.y rfl rfl rfl hst.ctx (Y.moveI rfl) ?_
        refine Drw.y rfl rfl rfl hst.ctx (Y.sliceHi Try.underlying34 Try.sizeOf42 rfl rfl rfl (by omega)) ?_
        refine Drw.y rfl rfl rfl hst.ctx (Y.moveP rfl) ?_
        refine Drw.y rfl rfl rfl hst.ctx (Y.nilCheck rfl) ?_
        first
        | refine Drw.y rfl rfl rfl hst.ctx (Y.fieldAddr fa36_0 rfl) ?_
        | refine Drw.y rfl rfl rfl hst.ctx (Y.fieldAddrP fa36_0 rfl) ?_
        first
        | refine Drw.y rfl rfl rfl hst.ctx (Y.load 0 Try.isAgg34 rfl rfl rfl) ?_
        | refine Drw.y rfl rfl rfl hst.ctx (Y.load 1 Try.isAgg34 rfl rfl rfl) ?_
        | refine Drw.y rfl rfl rfl hst.ctx (Y.load 2 Try.isAgg34 rfl rfl rfl) ?_
        | refine Drw.y rfl rfl rfl hst.ctx (Y.load 3 Try.isAgg34 rfl rfl rfl) ?_
        | refine Drw.y rfl rfl rfl hst.ctx (Y.load 2 Try.isAgg34 rfl rfl rfl) ?_
        refine Drw.y rfl rfl rfl hst.ctx (Y.moveI rfl) ?_
        refine Drw.y rfl rfl rfl hst.ctx (Y.addI rfl rfl (by omega)) ?_
        refine Drw.y rfl rfl rfl hst.ctx (Y.sliceLo Try.underlying34 Try.sizeOf42 rfl rfl (show (k : Int) + 1 = ((k + 1 : Nat) : Int) by omega) (by omega)) ?_
        refine Drw.x rfl rfl rfl (X.litRow hst Try.underlying34 Try.sizeOf42 ?_)
        clear hst; intro p23 w23 hst
        refine ⟨hst.ctx1, ?_⟩
        refine Drw.x rfl rfl rfl (X.append hst 0 Try.underlying34 infoRI rfl rfl rfl rfl rfl (rdsT (R := R) (k := k) (Rds.slL 4 rfl) (by omega)) (by rw [ics_length, htl]) (ics_ones _) (by unfold maxLen; omega) (by omega) ?_)
        clear hst; intro v30 w30 hst
        refine ⟨hst.ctx1, ?_⟩
        refine Drw.x rfl rfl rfl (X.append hst 0 Try.underlying34 infoRI rfl rfl rfl rfl rfl (rdsD (R := R) (k := k + 1) (Rds.slL 4 rfl) (by omega)) (by rw [ics_length, hdl]) (ics_ones _) (by unfold maxLen; omega) (by omega) ?_)
        clear hst; intro v38 w38 hst
        obtain ⟨A38, c38, rfl, -⟩ := rowR_shape (hst.res _ (List.Mem.head _))
        refine ⟨hst.ctx1, ?_⟩
        refine Drw.ya rfl rfl rfl hst.ctx1 (Y.nilCheck rfl) ?_
        first
        | refine Drw.y rfl rfl rfl hst.ctx1 (Y.fieldAddr fa36_0 rfl) ?_
        | refine Drw.y rfl rfl rfl hst.ctx1 (Y.fieldAddrP fa36_0 rfl) ?_
        refine Drw.z rfl rfl rfl rfl (X.storeV hst 3 (.slice _ _ _) Try.sizeOf34 rfl rfl rfl rfl (Nat.le_of_ble_eq_true rfl) rfl rfl ?_)
        clear hst; intro w39 hst
        refine Drw.done ?_
        refine W.seq rfl ?_
        refine W.region rfl ?_
        first
        | refine Ops.y rfl rfl rfl hst.ctx (Y.loadA 0 Try.isAgg42 Try.sizeOf42 rfl rfl rfl rfl) ?_
        | refine Ops.y rfl rfl rfl hst.ctx (Y.loadA 1 Try.isAgg42 Try.sizeOf42 rfl rfl rfl rfl) ?_
        | refine Ops.y rfl rfl rfl hst.ctx (Y.loadA 2 Try.isAgg42 Try.sizeOf42 rfl rfl rfl rfl) ?_
        | refine Ops.y rfl rfl rfl hst.ctx (Y.loadA 3 Try.isAgg42 Try.sizeOf42 rfl rfl rfl rfl) ?_
        | refine Ops.y rfl rfl rfl hst.ctx (Y.loadA 4 Try.isAgg42 Try.sizeOf42 rfl rfl rfl rfl) ?_
        | refine Ops.y rfl rfl rfl hst.ctx (Y.load 2 Try.isAgg34 rfl rfl rfl) ?_
        first
        | refine Ops.x rfl rfl rfl (X.storeS hst 0 Try.sizeOf42 rfl rfl rfl rfl rfl (Nat.le_of_ble_eq_true rfl) rfl rfl ?_)
        | refine Ops.x rfl rfl rfl (X.storeS hst 1 Try.sizeOf42 rfl rfl rfl rfl rfl (Nat.le_of_ble_eq_true rfl) rfl rfl ?_)
        | refine Ops.x rfl rfl rfl (X.storeS hst 2 Try.sizeOf42 rfl rfl rfl rfl rfl (Nat.le_of_ble_eq_true rfl) rfl rfl ?_)
        | refine Ops.x rfl rfl rfl (X.storeS hst 3 Try.sizeOf42 rfl rfl rfl rfl rfl (Nat.le_of_ble_eq_true rfl) rfl rfl ?_)
        | refine Ops.x rfl rfl rfl (X.storeS hst 4 Try.sizeOf42 rfl rfl rfl rfl rfl (Nat.le_of_ble_eq_true rfl) rfl rfl ?_)
        clear hst; intro w6_1 hst
        try simp only [List.set_cons_zero, List.set_cons_succ, Nat.zero_add, Nat.reduceAdd, splice, List.take, List.drop, List.append_eq, List.nil_append, List.cons_append, List.length_cons, List.length_nil] at hst
        refine Ops.y rfl rfl rfl hst.ctx (Y.assignB rfl) ?_
        refine Ops.done rfl ?_
        refine W.ret rfl ?_
        refine ⟨_, Rslt.cellTmp Try.results15 rfl (run_load_agg Try.isAgg42 Try.sizeOf42 rfl (fun j v h => by rw [add_lit', hst.cell (.inl (List.Mem.tail _ (List.Mem.tail _ (List.Mem.head _)))) (0 + j), Nat.zero_add]; exact h)) rfl, ?_⟩
        have hse : slR (.slice A38 (k + (R.length - (k + 1))) c38) (k + (R.length - (k + 1))) (ics (R.take k) ++ ics (R.drop (k + 1))) = slR (.slice A38 (k + (R.length - (k + 1))) c38) (rpop who R).length (ics (rpop who R)) := by
          rw [hxe, ics_append, List.length_append, htl, hdl]
        have hst := ((((hst.rowSl).swap.drop).swap.drop).swap).up3.drop
        replace hst : St w0 F0 _ (cellsR m [.slice A38 (k + (R.length - (k + 1))) c38] 36 :: slR (.slice A38 (k + (R.length - (k + 1))) c38) (k + (R.length - (k + 1))) (ics (R.take k) ++ ics (R.drop (k + 1))) :: L) G := hst
        rw [hse] at hst
        refine ⟨R.getD k ri0, _, rfl, ⟨?_, ?_⟩, _, hst⟩
        · exact (decide_eq_true (show of_ who R ≠ [] from fun e => by rw [e] at hhd; cases hhd)).symm
        · rw [List.headD_eq_head?_getD, hhd]; rfl

theorem slR_eq {v : Value} {n n' : Nat} {xs xs' : List Value} (h1 : n = n') (h2 : xs = xs') : slR v n xs = slR v n' xs' := by rw [h1, h2]
set_option maxHeartbeats 2000000 in
theorem rPush_any (who : Int) (s : ByteArray) (m : Nat) (v : Value) (R : List RI) (w0 w : World) (F0 : List Nat) (L G : List Res) (hst : St w0 F0 w (cellsR m [v] 36 :: slR v R.length (ics R) :: L) G) (hl : R.length ≤ 4000) :
    Calls Try.prog 13 #[.pointer (some ⟨m, 0, none⟩), .int .i64 who, .string s] w fun e w' => e = .returned (.int .i64 (if inR who then if s.size ≤ 4096 then if (of_ who R).length = 64 then 8 else 0 else 3 else 1)) ∧ ∃ v', St w0 F0 w' (cellsR m [v'] 36 :: slR v' ((if inR who ∧ s.size ≤ 4096 then rpush who s R else R)).length (ics ((if inR who ∧ s.size ≤ 4096 then rpush who s R else R))) :: L) G := by
  refine W.func Try.func13 rfl Try.ntmps13 rfl ?_
  refine W.seq rfl ?_
  refine W.region rfl ?_
  refine Ops.y rfl rfl rfl hst.ctx (Y.assignI rfl) ?_
  refine Ops.done rfl ?_
  refine W.seq rfl ?_
  refine W.seq rfl ?_
  refine W.region rfl ?_
  refine Ops.y rfl rfl rfl hst.ctx (Y.moveI rfl) ?_
  refine Ops.x rfl rfl rfl (X.call cf24 rfl ?_)
  refine use_call (near_any _ _) rfl ?_; rintro e w1 ⟨b9, rfl, hb9, rfl⟩; refine ⟨_, rfl, ?_⟩
  cases b9
  · replace hb9 := of_decide_eq_false hb9.symm
    refine Ops.y rfl rfl rfl hst.ctx (Y.not rfl) ?_
    refine Ops.done rfl ?_
    refine W.condT rfl rfl ?_
    refine W.seq rfl ?_
    refine W.region rfl ?_
    refine Ops.y rfl rfl rfl hst.ctx (Y.assignI rfl) ?_
    refine Ops.done rfl ?_
    refine W.ret rfl ?_
    refine ⟨_, Rslt.one Try.results13 rfl, ?_⟩
    first
    | exact ⟨ret_int (by rw [if_neg (by assumption)]), by rw [if_neg (fun h => by have := h.1; contradiction)]; exact ⟨v, hst⟩⟩
    | exact ⟨ret_int (by rw [if_pos (by assumption), if_neg (by omega)]), by rw [if_neg (fun h => by omega)]; exact ⟨v, hst⟩⟩
    | (refine ⟨ret_int ?_, ?_⟩
       · rw [if_pos (by assumption), if_pos (by omega)]; first | (rw [if_pos (by omega)]; done) | rw [if_neg (by omega)]
       · rw [if_pos ⟨by assumption, by omega⟩, hR3]
         have hst := ((((hst.rowSl).swap.drop).swap)).up3.drop
         rw [slR_eq (show 0 + R3.length + 1 = (R3 ++ [(⟨who, s, 0⟩ : RI)]).length by simp) (show [] ++ ics R3 ++ ics [(⟨who, s, 0⟩ : RI)] = ics (R3 ++ [(⟨who, s, 0⟩ : RI)]) by rw [ics_append]; rfl)] at hst
         exact ⟨_, hst⟩)
  · replace hb9 := of_decide_eq_true hb9.symm
    refine Ops.y rfl rfl rfl hst.ctx (Y.not rfl) ?_
    refine Ops.done rfl ?_
    refine W.condF rfl rfl ?_
    refine W.skip rfl ?_
    refine W.seq rfl ?_
    refine W.seq rfl ?_
    refine W.region rfl ?_
    refine Ops.y rfl rfl rfl hst.ctx (Y.moveT rfl) ?_
    refine Ops.y rfl rfl rfl hst.ctx (Y.lenT Try.underlying9 rfl) ?_
    refine Ops.yb rfl rfl rfl hst.ctx (Y.gtr rfl rfl) (fun b13 hb13 => ?_)
    refine Ops.done rfl ?_
    cases b13
    · replace hb13 := of_decide_eq_false hb13.symm
      refine W.condF rfl rfl ?_
      refine W.skip rfl ?_
      refine W.seq rfl ?_
      refine W.region rfl ?_
      refine Ops.y rfl rfl rfl hst.ctx (Y.assignI rfl) ?_
      refine Ops.done rfl ?_
      refine W.seq rfl ?_
      refine W.seq rfl ?_
      refine W.region rfl ?_
      refine Ops.y rfl rfl rfl hst.ctx (Y.moveP rfl) ?_
      refine Ops.y rfl rfl rfl hst.ctx (Y.moveI rfl) ?_
      refine Ops.x rfl rfl rfl (X.call cf19 rfl ?_)
      refine use_call (rLen_any who m v R _ _ _ _ _ hst hl) rfl ?_; clear hst; rintro e w2 ⟨rfl, hst⟩; refine ⟨_, rfl, ?_⟩
      refine Ops.yb rfl rfl rfl hst.ctx (Y.eql rfl rfl) (fun b17 hb17 => ?_)
      refine Ops.done rfl ?_
      cases b17
      · replace hb17 := of_decide_eq_false hb17.symm
        refine W.condF rfl rfl ?_
        refine W.skip rfl ?_
        refine W.seq rfl ?_
        obtain ⟨v3, R3, hl3, hR3, hst⟩ : ∃ v3 R3, R3.length ≤ 4000 ∧ rpush who s R = R3 ++ [⟨who, s, 0⟩] ∧ St w0 F0 _ (cellsR m [v3] 36 :: slR v3 R3.length (ics R3) :: L) G := by
          first
          | exact ⟨v, R, hl, by unfold rpush; rw [if_neg (by omega)], hst⟩
          | exact ⟨_, rpop who R, by have := rpop_len who R; omega, by unfold rpush; rw [if_pos (by omega)], hst⟩
        obtain ⟨A3, c3, rfl, -⟩ : ∃ A3 c3, v3 = .slice A3 R3.length c3 ∧ True := by obtain ⟨A3, c3, h, _⟩ := (Rds.slL 1 rfl : Rds (cellsR m [v3] 36 :: slR v3 R3.length (ics R3) :: L) G v3 R3.length (ics R3)).sl hst; exact ⟨A3, c3, h, trivial⟩
        refine W.region rfl ?_
        refine Ops.y rfl rfl rfl hst.ctx (Y.moveP rfl) ?_
        refine Ops.x rfl rfl rfl (X.litRow hst Try.underlying34 Try.sizeOf42 ?_)
        clear hst; intro p22 w22 hst
        refine Ops.y rfl rfl rfl hst.ctx (Y.moveP rfl) ?_
        refine Ops.y rfl rfl rfl hst.ctx (Y.nilCheck rfl) ?_
        first
        | refine Ops.y rfl rfl rfl hst.ctx (Y.fieldAddr fa36_0 rfl) ?_
        | refine Ops.y rfl rfl rfl hst.ctx (Y.fieldAddrP fa36_0 rfl) ?_
        first
        | refine Ops.y rfl rfl rfl hst.ctx (Y.load 0 Try.isAgg34 rfl rfl rfl) ?_
        | refine Ops.y rfl rfl rfl hst.ctx (Y.load 1 Try.isAgg34 rfl rfl rfl) ?_
        | refine Ops.y rfl rfl rfl hst.ctx (Y.load 1 Try.isAgg34 rfl rfl rfl) ?_
        refine Ops.x rfl rfl rfl (X.append hst 0 Try.underlying34 infoRI rfl rfl rfl rfl rfl (Rds.slL 2 rfl) (ics_length R3) (ics_ones _) (by unfold maxLen; omega) (by omega) ?_)
        clear hst; intro v27 w27 hst
        refine Ops.y rfl rfl rfl hst.ctx (Y.moveI rfl) ?_
        refine Ops.y rfl rfl rfl hst.ctx (Y.moveT rfl) ?_
        refine Ops.y rfl rfl rfl hst.ctx (bd42_0_1 rfl) ?_
        refine Ops.x rfl rfl rfl (X.lit1 hst Try.underlying34 Try.sizeOf42 Try.zeroValue42 (by rfl) (vs := [.int .i64 who, .string s, .int .i64 0]) rfl (by rfl) ?_)
        clear hst; intro p31 w31 hst
        replace hst := hst.swap
        refine Ops.x rfl rfl rfl (X.append hst 0 Try.underlying34 infoRI rfl rfl rfl rfl rfl (Rds.ofCells 1 rfl 1 1) rfl (ics_ones [⟨who, s, 0⟩]) (by unfold maxLen; omega) (by omega) ?_)
        clear hst; intro v32 w32 hst
        obtain ⟨A32, c32, rfl, -⟩ := rowR_shape (hst.res _ (List.Mem.head _))
        refine Ops.y rfl rfl rfl hst.ctx (Y.nilCheck rfl) ?_
        first
        | refine Ops.y rfl rfl rfl hst.ctx (Y.fieldAddr fa36_0 rfl) ?_
        | refine Ops.y rfl rfl rfl hst.ctx (Y.fieldAddrP fa36_0 rfl) ?_
        refine Ops.x rfl rfl rfl (X.storeV hst 2 (.slice _ _ _) Try.sizeOf34 rfl rfl rfl rfl (Nat.le_of_ble_eq_true rfl) rfl rfl ?_)
        clear hst; intro w34 hst
        refine Ops.done rfl ?_
        refine W.seq rfl ?_
        refine W.region rfl ?_
        refine Ops.y rfl rfl rfl hst.ctx (Y.moveI rfl) ?_
        refine Ops.y rfl rfl rfl hst.ctx (Y.assignI rfl) ?_
        refine Ops.done rfl ?_
        refine W.ret rfl ?_
        refine ⟨_, Rslt.one Try.results13 rfl, ?_⟩
        first
        | exact ⟨ret_int (by rw [if_neg (by assumption)]), by rw [if_neg (fun h => by have := h.1; contradiction)]; exact ⟨v, hst⟩⟩
        | exact ⟨ret_int (by rw [if_pos (by assumption), if_neg (by omega)]), by rw [if_neg (fun h => by omega)]; exact ⟨v, hst⟩⟩
        | (refine ⟨ret_int ?_, ?_⟩
           · rw [if_pos (by assumption), if_pos (by omega)]; first | (rw [if_pos (by omega)]; done) | rw [if_neg (by omega)]
           · rw [if_pos ⟨by assumption, by omega⟩, hR3]
             have hst := ((((hst.rowSl).swap.drop).swap)).up3.drop
             rw [slR_eq (show 0 + R3.length + 1 = (R3 ++ [(⟨who, s, 0⟩ : RI)]).length by simp) (show [] ++ ics R3 ++ ics [(⟨who, s, 0⟩ : RI)] = ics (R3 ++ [(⟨who, s, 0⟩ : RI)]) by rw [ics_append]; rfl)] at hst
             exact ⟨_, hst⟩)
      · replace hb17 := of_decide_eq_true hb17.symm
        refine W.condT rfl rfl ?_
        refine W.seq rfl ?_
        refine W.region rfl ?_
        refine Ops.y rfl rfl rfl hst.ctx (Y.moveP rfl) ?_
        refine Ops.y rfl rfl rfl hst.ctx (Y.moveI rfl) ?_
        refine Ops.x rfl rfl rfl (X.call cf15 rfl ?_)
        refine use_call (rPop_any who m v R _ _ _ _ _ hst hl) rfl ?_; clear hst; rintro e w3 ⟨x, bq, rfl, -, v2, hst⟩; refine ⟨_, rfl, ?_⟩
        refine Ops.done rfl ?_
        refine W.region rfl ?_
        refine Ops.y rfl rfl rfl hst.ctx (Y.assignI rfl) ?_
        refine Ops.done rfl ?_
        refine W.seq rfl ?_
        obtain ⟨v3, R3, hl3, hR3, hst⟩ : ∃ v3 R3, R3.length ≤ 4000 ∧ rpush who s R = R3 ++ [⟨who, s, 0⟩] ∧ St w0 F0 _ (cellsR m [v3] 36 :: slR v3 R3.length (ics R3) :: L) G := by
          first
          | exact ⟨v, R, hl, by unfold rpush; rw [if_neg (by omega)], hst⟩
          | exact ⟨_, rpop who R, by have := rpop_len who R; omega, by unfold rpush; rw [if_pos (by omega)], hst⟩
        obtain ⟨A3, c3, rfl, -⟩ : ∃ A3 c3, v3 = .slice A3 R3.length c3 ∧ True := by obtain ⟨A3, c3, h, _⟩ := (Rds.slL 1 rfl : Rds (cellsR m [v3] 36 :: slR v3 R3.length (ics R3) :: L) G v3 R3.length (ics R3)).sl hst; exact ⟨A3, c3, h, trivial⟩
        refine W.region rfl ?_
        refine Ops.y rfl rfl rfl hst.ctx (Y.moveP rfl) ?_
        refine Ops.x rfl rfl rfl (X.litRow hst Try.underlying34 Try.sizeOf42 ?_)
        clear hst; intro p22 w22 hst
        refine Ops.y rfl rfl rfl hst.ctx (Y.moveP rfl) ?_
        refine Ops.y rfl rfl rfl hst.ctx (Y.nilCheck rfl) ?_
        first
        | refine Ops.y rfl rfl rfl hst.ctx (Y.fieldAddr fa36_0 rfl) ?_
        | refine Ops.y rfl rfl rfl hst.ctx (Y.fieldAddrP fa36_0 rfl) ?_
        first
        | refine Ops.y rfl rfl rfl hst.ctx (Y.load 0 Try.isAgg34 rfl rfl rfl) ?_
        | refine Ops.y rfl rfl rfl hst.ctx (Y.load 1 Try.isAgg34 rfl rfl rfl) ?_
        | refine Ops.y rfl rfl rfl hst.ctx (Y.load 1 Try.isAgg34 rfl rfl rfl) ?_
        refine Ops.x rfl rfl rfl (X.append hst 0 Try.underlying34 infoRI rfl rfl rfl rfl rfl (Rds.slL 2 rfl) (ics_length R3) (ics_ones _) (by unfold maxLen; omega) (by omega) ?_)
        clear hst; intro v27 w27 hst
        refine Ops.y rfl rfl rfl hst.ctx (Y.moveI rfl) ?_
        refine Ops.y rfl rfl rfl hst.ctx (Y.moveT rfl) ?_
        refine Ops.y rfl rfl rfl hst.ctx (bd42_0_1 rfl) ?_
        refine Ops.x rfl rfl rfl (X.lit1 hst Try.underlying34 Try.sizeOf42 Try.zeroValue42 (by rfl) (vs := [.int .i64 who, .string s, .int .i64 0]) rfl (by rfl) ?_)
        clear hst; intro p31 w31 hst
        replace hst := hst.swap
        refine Ops.x rfl rfl rfl (X.append hst 0 Try.underlying34 infoRI rfl rfl rfl rfl rfl (Rds.ofCells 1 rfl 1 1) rfl (ics_ones [⟨who, s, 0⟩]) (by unfold maxLen; omega) (by omega) ?_)
        clear hst; intro v32 w32 hst
        obtain ⟨A32, c32, rfl, -⟩ := rowR_shape (hst.res _ (List.Mem.head _))
        refine Ops.y rfl rfl rfl hst.ctx (Y.nilCheck rfl) ?_
        first
        | refine Ops.y rfl rfl rfl hst.ctx (Y.fieldAddr fa36_0 rfl) ?_
        | refine Ops.y rfl rfl rfl hst.ctx (Y.fieldAddrP fa36_0 rfl) ?_
        refine Ops.x rfl rfl rfl (X.storeV hst 2 (.slice _ _ _) Try.sizeOf34 rfl rfl rfl rfl (Nat.le_of_ble_eq_true rfl) rfl rfl ?_)
        clear hst; intro w34 hst
        refine Ops.done rfl ?_
        refine W.seq rfl ?_
        refine W.region rfl ?_
        refine Ops.y rfl rfl rfl hst.ctx (Y.moveI rfl) ?_
        refine Ops.y rfl rfl rfl hst.ctx (Y.assignI rfl) ?_
        refine Ops.done rfl ?_
        refine W.ret rfl ?_
        refine ⟨_, Rslt.one Try.results13 rfl, ?_⟩
        first
        | exact ⟨ret_int (by rw [if_neg (by assumption)]), by rw [if_neg (fun h => by have := h.1; contradiction)]; exact ⟨v, hst⟩⟩
        | exact ⟨ret_int (by rw [if_pos (by assumption), if_neg (by omega)]), by rw [if_neg (fun h => by omega)]; exact ⟨v, hst⟩⟩
        | (refine ⟨ret_int ?_, ?_⟩
           · rw [if_pos (by assumption), if_pos (by omega)]; first | (rw [if_pos (by omega)]; done) | rw [if_neg (by omega)]
           · rw [if_pos ⟨by assumption, by omega⟩, hR3]
             have hst := ((((hst.rowSl).swap.drop).swap)).up3.drop
             rw [slR_eq (show 0 + R3.length + 1 = (R3 ++ [(⟨who, s, 0⟩ : RI)]).length by simp) (show [] ++ ics R3 ++ ics [(⟨who, s, 0⟩ : RI)] = ics (R3 ++ [(⟨who, s, 0⟩ : RI)]) by rw [ics_append]; rfl)] at hst
             exact ⟨_, hst⟩)
    · replace hb13 := of_decide_eq_true hb13.symm
      refine W.condT rfl rfl ?_
      refine W.seq rfl ?_
      refine W.region rfl ?_
      refine Ops.y rfl rfl rfl hst.ctx (Y.assignI rfl) ?_
      refine Ops.done rfl ?_
      refine W.ret rfl ?_
      refine ⟨_, Rslt.one Try.results13 rfl, ?_⟩
      first
      | exact ⟨ret_int (by rw [if_neg (by assumption)]), by rw [if_neg (fun h => by have := h.1; contradiction)]; exact ⟨v, hst⟩⟩
      | exact ⟨ret_int (by rw [if_pos (by assumption), if_neg (by omega)]), by rw [if_neg (fun h => by omega)]; exact ⟨v, hst⟩⟩
      | (refine ⟨ret_int ?_, ?_⟩
         · rw [if_pos (by assumption), if_pos (by omega)]; first | (rw [if_pos (by omega)]; done) | rw [if_neg (by omega)]
         · rw [if_pos ⟨by assumption, by omega⟩, hR3]
           have hst := ((((hst.rowSl).swap.drop).swap)).up3.drop
           rw [slR_eq (show 0 + R3.length + 1 = (R3 ++ [(⟨who, s, 0⟩ : RI)]).length by simp) (show [] ++ ics R3 ++ ics [(⟨who, s, 0⟩ : RI)] = ics (R3 ++ [(⟨who, s, 0⟩ : RI)]) by rw [ics_append]; rfl)] at hst
           exact ⟨_, hst⟩)

set_option maxHeartbeats 2000000 in
theorem rTick_any (most : Int) (m : Nat) (v : Value) (R : List RI) (w0 w : World) (F0 : List Nat) (L G : List Res) (hst : St w0 F0 w (cellsR m [v] 36 :: slR v R.length (ics R) :: L) G) (hl : R.length ≤ 4000) (hag : ∀ x ∈ R, 0 ≤ x.age ∧ x.age ≤ 4611686018427387904) :
    Calls Try.prog 16 #[.pointer (some ⟨m, 0, none⟩), .int .i64 most] w fun e w' => e = .returned (.int .i64 ((R.length : Int) - (rtick most R).length)) ∧ ∃ v', St w0 F0 w' (cellsR m [v'] 36 :: slR v' (rtick most R).length (ics (rtick most R)) :: L) G := by
  obtain ⟨A, cap, rfl, hcap, -⟩ := (Rds.slL 1 rfl : Rds (cellsR m [v] 36 :: slR v R.length (ics R) :: L) G v R.length (ics R)).sl hst
  refine W.func Try.func16 rfl Try.ntmps16 rfl ?_
  refine W.seq rfl ?_
  refine W.region rfl ?_
  refine Ops.y rfl rfl rfl hst.ctx (Y.assignI rfl) ?_
  refine Ops.done rfl ?_
  refine W.seq rfl ?_
  refine W.region rfl ?_
  refine Ops.y rfl rfl rfl hst.ctx (Y.assignS rfl) ?_
  refine Ops.done rfl ?_
  refine W.seq rfl ?_
  refine W.seq rfl ?_
  replace hst := hst.nilRow 42 3
  refine W.region rfl ?_
  refine Ops.y rfl rfl rfl hst.ctx (Y.moveP rfl) ?_
  refine Ops.y rfl rfl rfl hst.ctx (Y.nilCheck rfl) ?_
  first
  | refine Ops.y rfl rfl rfl hst.ctx (Y.fieldAddr fa36_0 rfl) ?_
  | refine Ops.y rfl rfl rfl hst.ctx (Y.fieldAddrP fa36_0 rfl) ?_
  first
  | refine Ops.y rfl rfl rfl hst.ctx (Y.load 0 Try.isAgg34 rfl rfl rfl) ?_
  | refine Ops.y rfl rfl rfl hst.ctx (Y.load 1 Try.isAgg34 rfl rfl rfl) ?_
  refine Ops.y rfl rfl rfl hst.ctx (Y.lenS Try.underlying34 rfl) ?_
  refine Ops.y rfl rfl rfl hst.ctx (Y.moveI rfl) ?_
  refine Ops.done rfl ?_
  refine W.block rfl ?_
  refine W.loop (γ := Nat × Option Addr × Nat) [(0, .pointer _), (1, .int _ _), (12, .slice _ _ _), (13, .int _ _)] (fun x => [(5, .slice x.2.1 (rtick most (R.take x.1)).length x.2.2), (14, .int .i64 (x.1 : Int))]) (fun x w => x.1 ≤ R.length ∧ St w0 F0 w (rowR (.slice x.2.1 (rtick most (R.take x.1)).length x.2.2) 42 3 (rtick most (R.take x.1)).length (ics (rtick most (R.take x.1))) :: cellsR m [.slice A R.length cap] 36 :: slR (.slice A R.length cap) R.length (ics R) :: L) G) (fun x => R.length - x.1) ((0, none, 0)) rfl ⟨rfl, rfl, rfl, rfl, trivial⟩ ?_ ?_ ?_
  · exact ⟨rfl, rfl, trivial⟩
  · exact ⟨by omega, hst⟩
  · clear hst; rintro ⟨k, A5, c5⟩ j w3 ⟨hk, hst⟩
    dsimp only at hk hst ⊢
    refine W.seq rfl ?_
    refine W.region rfl ?_
    refine Ops.yb rfl rfl rfl hst.ctx (Y.lss rfl rfl) (fun b15 hb15 => ?_)
    refine Ops.done rfl ?_
    refine W.seq rfl ?_
    cases b15
    · replace hb15 := of_decide_eq_false hb15.symm
      refine W.condF rfl rfl ?_
      refine W.exit rfl ?_
      refine W.seq rfl ?_
      refine W.region rfl ?_
      have hkl : k = R.length := by omega
      subst hkl
      rw [List.take_length] at hst
      refine Ops.y rfl rfl rfl hst.ctx (Y.moveP rfl) ?_
      refine Ops.y rfl rfl rfl hst.ctx (Y.nilCheck rfl) ?_
      first
      | refine Ops.y rfl rfl rfl hst.ctx (Y.fieldAddr fa36_0 rfl) ?_
      | refine Ops.y rfl rfl rfl hst.ctx (Y.fieldAddrP fa36_0 rfl) ?_
      first
      | refine Ops.y rfl rfl rfl hst.ctx (Y.load 0 Try.isAgg34 rfl rfl rfl) ?_
      | refine Ops.y rfl rfl rfl hst.ctx (Y.load 1 Try.isAgg34 rfl rfl rfl) ?_
      refine Ops.y rfl rfl rfl hst.ctx (Y.lenS Try.underlying34 rfl) ?_
      refine Ops.y rfl rfl rfl hst.ctx (Y.moveS rfl) ?_
      refine Ops.y rfl rfl rfl hst.ctx (Y.lenS Try.underlying34 rfl) ?_
      refine Ops.y rfl rfl rfl hst.ctx (Y.subI rfl rfl (by have := rtick_len most (R.take R.length); rw [List.length_take] at this; omega)) ?_
      refine Ops.y rfl rfl rfl hst.ctx (Y.assignI rfl) ?_
      refine Ops.done rfl ?_
      refine W.seq rfl ?_
      refine W.region rfl ?_
      refine Ops.y rfl rfl rfl hst.ctx (Y.moveP rfl) ?_
      refine Ops.y rfl rfl rfl hst.ctx (Y.moveS rfl) ?_
      refine Ops.y rfl rfl rfl hst.ctx (Y.nilCheck rfl) ?_
      first
      | refine Ops.y rfl rfl rfl hst.ctx (Y.fieldAddr fa36_0 rfl) ?_
      | refine Ops.y rfl rfl rfl hst.ctx (Y.fieldAddrP fa36_0 rfl) ?_
      refine Ops.x rfl rfl rfl (X.storeV hst 1 (.slice _ _ _) Try.sizeOf34 rfl rfl rfl rfl (Nat.le_of_ble_eq_true rfl) rfl rfl ?_)
      clear hst; intro w42 hst
      refine Ops.done rfl ?_
      refine W.seq rfl ?_
      refine W.region rfl ?_
      refine Ops.y rfl rfl rfl hst.ctx (Y.moveI rfl) ?_
      refine Ops.y rfl rfl rfl hst.ctx (Y.assignI rfl) ?_
      refine Ops.done rfl ?_
      refine W.ret rfl ?_
      refine ⟨_, Rslt.one Try.results16 rfl, ?_⟩
      refine ⟨ret_int (by rw [List.take_length]), ?_⟩
      rw [List.take_length] at hst
      exact ⟨_, (((hst.rowSl).swap).up3.drop)⟩
    · replace hb15 := of_decide_eq_true hb15.symm
      refine W.condT rfl rfl ?_
      refine W.skip rfl ?_
      refine W.seq rfl ?_
      refine W.block rfl ?_
      refine W.seq rfl ?_
      refine W.region rfl ?_
      have hk1 : k < R.length := by omega
      have hxa := hag _ (getD_memR hk1)
      have hsn := rtick_snoc (most := most) hk1
      have hrl := rtick_len most (R.take k)
      rw [List.length_take] at hrl
      refine Ops.y rfl rfl rfl hst.ctx (Y.indexAddr Try.underlying34 Try.sizeOf42 rfl rfl ((Rds.sl (Rds.slL 2 rfl) hst).ne (by rw [ics_length]; omega)) (by omega)) ?_
      refine Ops.y rfl rfl rfl hst.ctx (Y.loadSlA Try.isAgg42 Try.sizeOf42 rfl (Rds.slL 2 rfl) (ics_at R k hk1) rfl) ?_
      refine Ops.x rfl rfl rfl (X.allocA hst Try.zeroValue42 ?_)
      clear hst; intro p7 w7 hst
      first
      | refine Ops.x rfl rfl rfl (X.storeS hst 0 Try.sizeOf42 rfl rfl rfl rfl rfl (Nat.le_of_ble_eq_true rfl) rfl rfl ?_)
      | refine Ops.x rfl rfl rfl (X.storeS hst 1 Try.sizeOf42 rfl rfl rfl rfl rfl (Nat.le_of_ble_eq_true rfl) rfl rfl ?_)
      clear hst; intro w4_3 hst
      try simp only [List.set_cons_zero, List.set_cons_succ, Nat.zero_add, Nat.reduceAdd, splice, List.take, List.drop, List.append_eq, List.nil_append, List.cons_append, List.length_cons, List.length_nil] at hst
      refine Ops.done rfl ?_
      refine W.seq rfl ?_
      refine W.region rfl ?_
      first
      | refine Ops.y rfl rfl rfl hst.ctx (Y.fieldAddr fa42_2 rfl) ?_
      | refine Ops.y rfl rfl rfl hst.ctx (Y.fieldAddrP fa42_2 rfl) ?_
      first
      | refine Ops.y rfl rfl rfl hst.ctx (Y.load 0 Try.isAgg3 rfl rfl rfl) ?_
      | refine Ops.y rfl rfl rfl hst.ctx (Y.load 1 Try.isAgg3 rfl rfl rfl) ?_
      | refine Ops.y rfl rfl rfl hst.ctx (Y.load 1 Try.isAgg34 rfl rfl rfl) ?_
      refine Ops.y rfl rfl rfl hst.ctx (Y.addI rfl rfl (by omega)) ?_
      first
      | refine Ops.y rfl rfl rfl hst.ctx (Y.fieldAddr fa42_2 rfl) ?_
      | refine Ops.y rfl rfl rfl hst.ctx (Y.fieldAddrP fa42_2 rfl) ?_
      first
      | refine Ops.x rfl rfl rfl (X.storeV hst 0 (.int _ _) Try.sizeOf3 rfl rfl rfl rfl (Nat.le_of_ble_eq_true rfl) rfl rfl ?_)
      | refine Ops.x rfl rfl rfl (X.storeV hst 1 (.int _ _) Try.sizeOf3 rfl rfl rfl rfl (Nat.le_of_ble_eq_true rfl) rfl rfl ?_)
      clear hst; intro w5_4 hst
      try simp only [List.set_cons_zero, List.set_cons_succ, Nat.zero_add, Nat.reduceAdd, splice, List.take, List.drop, List.append_eq, List.nil_append, List.cons_append, List.length_cons, List.length_nil] at hst
      refine Ops.done rfl ?_
      refine W.seq rfl ?_
      refine W.region rfl ?_
      first
      | refine Ops.y rfl rfl rfl hst.ctx (Y.fieldAddr fa42_2 rfl) ?_
      | refine Ops.y rfl rfl rfl hst.ctx (Y.fieldAddrP fa42_2 rfl) ?_
      first
      | refine Ops.y rfl rfl rfl hst.ctx (Y.load 0 Try.isAgg3 rfl rfl rfl) ?_
      | refine Ops.y rfl rfl rfl hst.ctx (Y.load 1 Try.isAgg3 rfl rfl rfl) ?_
      | refine Ops.y rfl rfl rfl hst.ctx (Y.load 1 Try.isAgg34 rfl rfl rfl) ?_
      refine Ops.y rfl rfl rfl hst.ctx (Y.moveI rfl) ?_
      refine Ops.yb rfl rfl rfl hst.ctx (Y.leq rfl rfl) (fun b25 hb25 => ?_)
      refine Ops.done rfl ?_
      cases b25
      · replace hb25 := of_decide_eq_false hb25.symm
        refine W.condF rfl rfl ?_
        refine W.skip rfl ?_
        refine W.region rfl ?_
        refine Ops.y rfl rfl rfl hst.ctx (Y.addI rfl rfl (by omega)) ?_
        refine Ops.y rfl rfl rfl hst.ctx (Y.moveI rfl) ?_
        refine Ops.done rfl ?_
        first
        | (rw [if_neg (by assumption), List.append_nil] at hsn
           have hg5 : Value.slice A5 (rtick most (R.take k)).length c5 = .slice A5 (rtick most (R.take (k + 1))).length c5 := by rw [hsn]
           exact ⟨(k + 1, A5, c5), ⟨hg5, rfl, trivial⟩, ⟨rfl, rfl, rfl, rfl, trivial⟩, ⟨by dsimp only; omega, by dsimp only; rw [hsn]; exact hst.drop⟩, by dsimp only; omega⟩)
        | (rw [if_pos (by assumption)] at hsn
           have hln : (rtick most (R.take (k + 1))).length = (rtick most (R.take k)).length + 1 := by rw [hsn, List.length_append]; rfl
           have hg5 : Value.slice A29 ((rtick most (R.take k)).length + 1) c29 = .slice A29 (rtick most (R.take (k + 1))).length c29 := by rw [hln]
           exact ⟨(k + 1, A29, c29), ⟨hg5, rfl, trivial⟩, ⟨rfl, rfl, rfl, rfl, trivial⟩, ⟨by dsimp only; omega, by dsimp only; rw [hln, hsn, ics_append]; exact hst.drop.drop⟩, by dsimp only; omega⟩)
      · replace hb25 := of_decide_eq_true hb25.symm
        refine W.condT rfl rfl ?_
        refine W.region rfl ?_
        refine Ops.y rfl rfl rfl hst.ctx (Y.moveS rfl) ?_
        first
        | refine Ops.y rfl rfl rfl hst.ctx (Y.loadA 0 Try.isAgg42 Try.sizeOf42 rfl rfl rfl rfl) ?_
        | refine Ops.y rfl rfl rfl hst.ctx (Y.loadA 1 Try.isAgg42 Try.sizeOf42 rfl rfl rfl rfl) ?_
        | refine Ops.y rfl rfl rfl hst.ctx (Y.load 1 Try.isAgg34 rfl rfl rfl) ?_
        refine Ops.x rfl rfl rfl (X.lit1 hst Try.underlying34 Try.sizeOf42 Try.zeroValue42 (by rfl) (vs := [.int .i64 (R.getD k ri0).who, .string (R.getD k ri0).s, .int .i64 ((R.getD k ri0).age + 1)]) rfl (by rfl) ?_)
        clear hst; intro p28 w28 hst
        refine Ops.x rfl rfl rfl (X.append hst 2 Try.underlying34 infoRI rfl rfl rfl rfl rfl (Rds.ofCells 0 rfl 1 1) rfl (ics_ones [({ R.getD k ri0 with age := (R.getD k ri0).age + 1 } : RI)]) (by unfold maxLen; omega) (by omega) ?_)
        clear hst; intro v29 w29 hst
        obtain ⟨A29, c29, rfl, -⟩ := rowR_shape (hst.res _ (List.Mem.tail _ (List.Mem.tail _ (List.Mem.head _))))
        refine Ops.y rfl rfl rfl hst.ctx (Y.assignS rfl) ?_
        refine Ops.done rfl ?_
        refine W.region rfl ?_
        refine Ops.y rfl rfl rfl hst.ctx (Y.addI rfl rfl (by omega)) ?_
        refine Ops.y rfl rfl rfl hst.ctx (Y.moveI rfl) ?_
        refine Ops.done rfl ?_
        first
        | (rw [if_neg (by assumption), List.append_nil] at hsn
           have hg5 : Value.slice A5 (rtick most (R.take k)).length c5 = .slice A5 (rtick most (R.take (k + 1))).length c5 := by rw [hsn]
           exact ⟨(k + 1, A5, c5), ⟨hg5, rfl, trivial⟩, ⟨rfl, rfl, rfl, rfl, trivial⟩, ⟨by dsimp only; omega, by dsimp only; rw [hsn]; exact hst.drop⟩, by dsimp only; omega⟩)
        | (rw [if_pos (by assumption)] at hsn
           have hln : (rtick most (R.take (k + 1))).length = (rtick most (R.take k)).length + 1 := by rw [hsn, List.length_append]; rfl
           have hg5 : Value.slice A29 ((rtick most (R.take k)).length + 1) c29 = .slice A29 (rtick most (R.take (k + 1))).length c29 := by rw [hln]
           exact ⟨(k + 1, A29, c29), ⟨hg5, rfl, trivial⟩, ⟨rfl, rfl, rfl, rfl, trivial⟩, ⟨by dsimp only; omega, by dsimp only; rw [hln, hsn, ics_append]; exact hst.drop.drop⟩, by dsimp only; omega⟩)

def rclear (who : Int) (l : List RI) : List RI := l.filter fun x => decide (x.who ≠ who)
theorem rclear_snoc {who : Int} {l : List RI} {k : Nat} (h : k < l.length) : rclear who (l.take (k + 1)) = rclear who (l.take k) ++ (if (l.getD k ri0).who ≠ who then [l.getD k ri0] else []) := by
  rw [getD_snoc h]
  generalize l.getD k ri0 = x
  unfold rclear
  rw [List.filter_append]
  congr 1
  by_cases e : x.who = who <;> simp [e]
theorem rclear_len (who : Int) (l : List RI) : (rclear who l).length ≤ l.length := List.length_filter_le _ _
set_option maxHeartbeats 2000000 in
theorem rClear_any (who : Int) (m : Nat) (v : Value) (R : List RI) (w0 w : World) (F0 : List Nat) (L G : List Res) (hst : St w0 F0 w (cellsR m [v] 36 :: slR v R.length (ics R) :: L) G) (hl : R.length ≤ 4000) :
    Calls Try.prog 18 #[.pointer (some ⟨m, 0, none⟩), .int .i64 who] w fun e w' => e = .returned (.tuple #[]) ∧ ∃ v', St w0 F0 w' (cellsR m [v'] 36 :: slR v' (rclear who R).length (ics (rclear who R)) :: L) G := by
  obtain ⟨A, cap, rfl, hcap, -⟩ := (Rds.slL 1 rfl : Rds (cellsR m [v] 36 :: slR v R.length (ics R) :: L) G v R.length (ics R)).sl hst
  refine W.func Try.func18 rfl Try.ntmps18 rfl ?_
  refine W.seq rfl ?_
  refine W.region rfl ?_
  refine Ops.y rfl rfl rfl hst.ctx (Y.assignS rfl) ?_
  refine Ops.done rfl ?_
  refine W.seq rfl ?_
  refine W.seq rfl ?_
  replace hst := hst.nilRow 42 3
  refine W.region rfl ?_
  refine Ops.y rfl rfl rfl hst.ctx (Y.moveP rfl) ?_
  refine Ops.y rfl rfl rfl hst.ctx (Y.nilCheck rfl) ?_
  first
  | refine Ops.y rfl rfl rfl hst.ctx (Y.fieldAddr fa36_0 rfl) ?_
  | refine Ops.y rfl rfl rfl hst.ctx (Y.fieldAddrP fa36_0 rfl) ?_
  first
  | refine Ops.y rfl rfl rfl hst.ctx (Y.load 0 Try.isAgg34 rfl rfl rfl) ?_
  | refine Ops.y rfl rfl rfl hst.ctx (Y.load 1 Try.isAgg34 rfl rfl rfl) ?_
  refine Ops.y rfl rfl rfl hst.ctx (Y.lenS Try.underlying34 rfl) ?_
  refine Ops.y rfl rfl rfl hst.ctx (Y.moveI rfl) ?_
  refine Ops.done rfl ?_
  refine W.block rfl ?_
  refine W.loop (γ := Nat × Option Addr × Nat) [(0, .pointer _), (1, .int _ _), (10, .slice _ _ _), (11, .int _ _)] (fun x => [(4, .slice x.2.1 (rclear who (R.take x.1)).length x.2.2), (12, .int .i64 (x.1 : Int))]) (fun x w => x.1 ≤ R.length ∧ St w0 F0 w (rowR (.slice x.2.1 (rclear who (R.take x.1)).length x.2.2) 42 3 (rclear who (R.take x.1)).length (ics (rclear who (R.take x.1))) :: cellsR m [.slice A R.length cap] 36 :: slR (.slice A R.length cap) R.length (ics R) :: L) G) (fun x => R.length - x.1) ((0, none, 0)) rfl ⟨rfl, rfl, rfl, rfl, trivial⟩ ?_ ?_ ?_
  · exact ⟨rfl, rfl, trivial⟩
  · exact ⟨by omega, hst⟩
  · clear hst; rintro ⟨k, A5, c5⟩ j w3 ⟨hk, hst⟩
    dsimp only at hk hst ⊢
    refine W.seq rfl ?_
    refine W.region rfl ?_
    refine Ops.yb rfl rfl rfl hst.ctx (Y.lss rfl rfl) (fun b13 hb13 => ?_)
    refine Ops.done rfl ?_
    refine W.seq rfl ?_
    cases b13
    · replace hb13 := of_decide_eq_false hb13.symm
      refine W.condF rfl rfl ?_
      refine W.exit rfl ?_
      refine W.region rfl ?_
      refine Ops.y rfl rfl rfl hst.ctx (Y.moveP rfl) ?_
      refine Ops.y rfl rfl rfl hst.ctx (Y.moveS rfl) ?_
      refine Ops.y rfl rfl rfl hst.ctx (Y.nilCheck rfl) ?_
      first
      | refine Ops.y rfl rfl rfl hst.ctx (Y.fieldAddr fa36_0 rfl) ?_
      | refine Ops.y rfl rfl rfl hst.ctx (Y.fieldAddrP fa36_0 rfl) ?_
      refine Ops.x rfl rfl rfl (X.storeV hst 1 (.slice _ _ _) Try.sizeOf34 rfl rfl rfl rfl (Nat.le_of_ble_eq_true rfl) rfl rfl ?_)
      clear hst; intro w42 hst
      refine Ops.done rfl ?_
      refine ⟨_, Rslt.none Try.results18, ?_⟩
      refine ⟨rfl, ?_⟩
      rw [show k = R.length by omega, List.take_length] at hst
      exact ⟨_, (((hst.rowSl).swap).up3.drop)⟩
    · replace hb13 := of_decide_eq_true hb13.symm
      refine W.condT rfl rfl ?_
      refine W.skip rfl ?_
      refine W.seq rfl ?_
      refine W.block rfl ?_
      refine W.seq rfl ?_
      refine W.region rfl ?_
      have hk1 : k < R.length := by omega
      have hsn := rclear_snoc (who := who) hk1
      have hrl := rclear_len who (R.take k)
      rw [List.length_take] at hrl
      refine Ops.y rfl rfl rfl hst.ctx (Y.indexAddr Try.underlying34 Try.sizeOf42 rfl rfl ((Rds.sl (Rds.slL 2 rfl) hst).ne (by rw [ics_length]; omega)) (by omega)) ?_
      refine Ops.y rfl rfl rfl hst.ctx (Y.loadSlA Try.isAgg42 Try.sizeOf42 rfl (Rds.slL 2 rfl) (ics_at R k hk1) rfl) ?_
      refine Ops.x rfl rfl rfl (X.allocA hst Try.zeroValue42 ?_)
      clear hst; intro p6 w6 hst
      first
      | refine Ops.x rfl rfl rfl (X.storeS hst 0 Try.sizeOf42 rfl rfl rfl rfl rfl (Nat.le_of_ble_eq_true rfl) rfl rfl ?_)
      | refine Ops.x rfl rfl rfl (X.storeS hst 1 Try.sizeOf42 rfl rfl rfl rfl rfl (Nat.le_of_ble_eq_true rfl) rfl rfl ?_)
      clear hst; intro w3_3 hst
      try simp only [List.set_cons_zero, List.set_cons_succ, Nat.zero_add, Nat.reduceAdd, splice, List.take, List.drop, List.append_eq, List.nil_append, List.cons_append, List.length_cons, List.length_nil] at hst
      refine Ops.done rfl ?_
      refine W.seq rfl ?_
      refine W.region rfl ?_
      first
      | refine Ops.y rfl rfl rfl hst.ctx (Y.fieldAddr fa42_0 rfl) ?_
      | refine Ops.y rfl rfl rfl hst.ctx (Y.fieldAddrP fa42_0 rfl) ?_
      first
      | refine Ops.y rfl rfl rfl hst.ctx (Y.load 0 Try.isAgg3 rfl rfl rfl) ?_
      | refine Ops.y rfl rfl rfl hst.ctx (Y.load 1 Try.isAgg3 rfl rfl rfl) ?_
      | refine Ops.y rfl rfl rfl hst.ctx (Y.load 1 Try.isAgg34 rfl rfl rfl) ?_
      refine Ops.y rfl rfl rfl hst.ctx (Y.moveI rfl) ?_
      refine Ops.yb rfl rfl rfl hst.ctx (Y.neq rfl rfl) (fun b19 hb19 => ?_)
      refine Ops.done rfl ?_
      cases b19
      · replace hb19 := of_decide_eq_false hb19.symm
        refine W.condF rfl rfl ?_
        refine W.skip rfl ?_
        refine W.region rfl ?_
        refine Ops.y rfl rfl rfl hst.ctx (Y.addI rfl rfl (by omega)) ?_
        refine Ops.y rfl rfl rfl hst.ctx (Y.moveI rfl) ?_
        refine Ops.done rfl ?_
        first
        | (rw [if_neg (by assumption), List.append_nil] at hsn
           have hg5 : Value.slice A5 (rclear who (R.take k)).length c5 = .slice A5 (rclear who (R.take (k + 1))).length c5 := by rw [hsn]
           exact ⟨(k + 1, A5, c5), ⟨hg5, rfl, trivial⟩, ⟨rfl, rfl, rfl, rfl, trivial⟩, ⟨by dsimp only; omega, by dsimp only; rw [hsn]; exact hst.drop⟩, by dsimp only; omega⟩)
        | (rw [if_pos (by assumption)] at hsn
           have hln : (rclear who (R.take (k + 1))).length = (rclear who (R.take k)).length + 1 := by rw [hsn, List.length_append]; rfl
           have hg5 : Value.slice A29 ((rclear who (R.take k)).length + 1) c29 = .slice A29 (rclear who (R.take (k + 1))).length c29 := by rw [hln]
           exact ⟨(k + 1, A29, c29), ⟨hg5, rfl, trivial⟩, ⟨rfl, rfl, rfl, rfl, trivial⟩, ⟨by dsimp only; omega, by dsimp only; rw [hln, hsn, ics_append]; exact hst.drop.drop⟩, by dsimp only; omega⟩)
      · replace hb19 := of_decide_eq_true hb19.symm
        refine W.condT rfl rfl ?_
        refine W.region rfl ?_
        refine Ops.y rfl rfl rfl hst.ctx (Y.moveS rfl) ?_
        first
        | refine Ops.y rfl rfl rfl hst.ctx (Y.loadA 0 Try.isAgg42 Try.sizeOf42 rfl rfl rfl rfl) ?_
        | refine Ops.y rfl rfl rfl hst.ctx (Y.loadA 1 Try.isAgg42 Try.sizeOf42 rfl rfl rfl rfl) ?_
        | refine Ops.y rfl rfl rfl hst.ctx (Y.load 1 Try.isAgg34 rfl rfl rfl) ?_
        refine Ops.x rfl rfl rfl (X.lit1 hst Try.underlying34 Try.sizeOf42 Try.zeroValue42 (by rfl) (vs := [.int .i64 (R.getD k ri0).who, .string (R.getD k ri0).s, .int .i64 (R.getD k ri0).age]) rfl (by rfl) ?_)
        clear hst; intro p22 w22 hst
        refine Ops.x rfl rfl rfl (X.append hst 2 Try.underlying34 infoRI rfl rfl rfl rfl rfl (Rds.ofCells 0 rfl 1 1) rfl (ics_ones [R.getD k ri0]) (by unfold maxLen; omega) (by omega) ?_)
        clear hst; intro v29 w29 hst
        obtain ⟨A29, c29, rfl, -⟩ := rowR_shape (hst.res _ (List.Mem.tail _ (List.Mem.tail _ (List.Mem.head _))))
        refine Ops.y rfl rfl rfl hst.ctx (Y.assignS rfl) ?_
        refine Ops.done rfl ?_
        refine W.region rfl ?_
        refine Ops.y rfl rfl rfl hst.ctx (Y.addI rfl rfl (by omega)) ?_
        refine Ops.y rfl rfl rfl hst.ctx (Y.moveI rfl) ?_
        refine Ops.done rfl ?_
        first
        | (rw [if_neg (by assumption), List.append_nil] at hsn
           have hg5 : Value.slice A5 (rclear who (R.take k)).length c5 = .slice A5 (rclear who (R.take (k + 1))).length c5 := by rw [hsn]
           exact ⟨(k + 1, A5, c5), ⟨hg5, rfl, trivial⟩, ⟨rfl, rfl, rfl, rfl, trivial⟩, ⟨by dsimp only; omega, by dsimp only; rw [hsn]; exact hst.drop⟩, by dsimp only; omega⟩)
        | (rw [if_pos (by assumption)] at hsn
           have hln : (rclear who (R.take (k + 1))).length = (rclear who (R.take k)).length + 1 := by rw [hsn, List.length_append]; rfl
           have hg5 : Value.slice A29 ((rclear who (R.take k)).length + 1) c29 = .slice A29 (rclear who (R.take (k + 1))).length c29 := by rw [hln]
           exact ⟨(k + 1, A29, c29), ⟨hg5, rfl, trivial⟩, ⟨rfl, rfl, rfl, rfl, trivial⟩, ⟨by dsimp only; omega, by dsimp only; rw [hln, hsn, ics_append]; exact hst.drop.drop⟩, by dsimp only; omega⟩)
end Go.Proofs.Ytcafmbbimoddjaa.LN
