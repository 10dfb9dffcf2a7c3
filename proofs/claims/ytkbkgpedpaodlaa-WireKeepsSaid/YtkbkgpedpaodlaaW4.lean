/- The walk of WireKeeps. -/
import Derived.Test.YtkbkgpedpaodlaaW3
set_option linter.unusedVariables false
set_option linter.unusedSimpArgs false
namespace Go.Proofs.Ytkbkgpedpaodlaa.W
open Go.RowKit Go.Proofs.Ytkbkgpedpaodlaa.K Go.Proofs.Ytkbkgpedpaodlaa.CM
theorem bd45_0 {S ρ ty} {parts : Array (Nat × Operand)} {x0 : Int} (hp : (parts.toList.map fun x => (x.1, ev ρ x.2)) = [(0, Value.int .i64 x0)]) : Y Try.prog S ρ (.build 45 parts) ty (.agg #[Value.int .i64 x0, Value.int .i64 0]) :=
  Y.build hp fun w => by simp [Instr.build, go_sem]

theorem lcs_ones (l : List (Int × Int)) : ∀ u ∈ lcs l, u.oneCell' = true := by
  intro u hu
  simp only [lcs, List.mem_flatMap, List.mem_cons, List.not_mem_nil, or_false] at hu
  obtain ⟨x, _, rfl | rfl⟩ := hu <;> rfl
theorem rowAny {w0 w : World} {F0 : List Nat} {L G : List Res} {A : Option Addr} {n c : Nat} {e : TypeId} {size : Nat} {xs : List Value} (h : St w0 F0 w (rowR (.slice A n c) e size n xs :: L) G) :
    ∃ r, St w0 F0 w (r :: L) G ∧ (0 < n → ∃ b cs, A = some ⟨b, 0, none⟩ ∧ r = cellsR b cs e ∧ n * size ≤ cs.length) := by
  have hh := h.res (rowR (.slice A n c) e size n xs) (by simp)
  rcases hh.2 with ⟨_, h0⟩ | ⟨g, cap, cur, hv, _, hg, hn, _, hsz, _⟩
  · exact ⟨_, h, fun h1 => by omega⟩
  · injection hv with hv _ _
    subst hv
    refine ⟨cellsR g cur.toList e, h.turn1 (by simp [blockOf]) (by simp) (fun _ => ⟨(0, 0), hg, .inl rfl⟩), fun _ => ⟨g, cur.toList, rfl, rfl, ?_⟩⟩
    rw [Array.length_toList, hsz]
    exact Nat.mul_le_mul_right _ hn
theorem enc_more {m : M} {t : ByteArray} {er : Int} (h : encM m = (t, er)) (h0 : er ≠ 0) : t = ⟨#[]⟩ := by
  by_cases hok : m.Ok
  · rw [encM_ok hok] at h; injection h with _ h; exact absurd h.symm h0
  · rw [encM_no hok] at h; injection h with h _; exact h.symm
set_option maxHeartbeats 1000000 in
theorem WireKeeps_walk (m : M) (A : Option Addr) (cap : Nat) (w0 : World) (hs : Sl w0 (.slice A m.tab.length cap) m.tab.length (lcs m.tab)) (hin : m.In) :
    Calls Try.prog 8 #[.agg #[.int .i64 m.kind, .int .i64 m.from_, .int .i64 m.slo, .int .i64 m.shi, .int .i64 m.held, .int .i64 m.hops, .bool m.good, .bool m.ref, .int .i64 m.elo, .int .i64 m.ehi, .int .i64 m.pulse, .int .i64 m.time, .int .i64 m.num, .slice A m.tab.length cap]] w0 fun e w' => e = .returned (.bool true) ∧ Below w0.heap.size w0 w' := by
  have hst := (St.start w0).arg hs
  have hr : ∀ {L}, Rds L [slR (.slice A m.tab.length cap) m.tab.length (lcs m.tab)] (.slice A m.tab.length cap) m.tab.length (lcs m.tab) := Rds.slG 0 rfl
  obtain ⟨⟨t, e0⟩, hE⟩ : ∃ r, encM m = r := ⟨_, rfl⟩
  refine W.func Try.func8 rfl Try.ntmps8 rfl ?_
  refine W.seq rfl ?_
  refine W.region rfl ?_
  refine Ops.x rfl rfl rfl (X.boxA hst rfl ?_)
  clear hst; intro p1 w1 hst
  refine Ops.y rfl rfl rfl hst.ctx (Y.assignB rfl) ?_
  refine Ops.done rfl ?_
  refine W.seq rfl ?_
  refine W.seq rfl ?_
  refine W.region rfl ?_
  refine Ops.x rfl rfl rfl (X.call cf15 rfl ?_)
  refine use_call (alive_any _ _ _ _ _ hst) rfl ?_; clear hst; rintro e w1 ⟨rfl, hst⟩; refine ⟨_, rfl, ?_⟩
  refine Ops.y rfl rfl rfl hst.ctx (Y.not rfl) ?_
  refine Ops.done rfl ?_
  refine W.condF rfl rfl ?_
  refine W.skip rfl ?_
  refine W.seq rfl ?_
  refine W.seq rfl ?_
  refine W.region rfl ?_
  first
  | refine Ops.y rfl rfl rfl hst.ctx (Y.loadA 0 Try.isAgg28 Try.sizeOf28 rfl rfl rfl rfl) ?_
  | refine Ops.y rfl rfl rfl hst.ctx (Y.loadA 1 Try.isAgg28 Try.sizeOf28 rfl rfl rfl rfl) ?_
  | refine Ops.y rfl rfl rfl hst.ctx (Y.loadA 2 Try.isAgg28 Try.sizeOf28 rfl rfl rfl rfl) ?_
  | refine Ops.y rfl rfl rfl hst.ctx (Y.loadA 3 Try.isAgg28 Try.sizeOf28 rfl rfl rfl rfl) ?_
  | refine Ops.y rfl rfl rfl hst.ctx (Y.loadA 4 Try.isAgg28 Try.sizeOf28 rfl rfl rfl rfl) ?_
  refine Ops.x rfl rfl rfl (X.call cf11 rfl ?_)
  refine use_call (long_b m.kind m.from_ m.slo m.shi m.held m.hops m.good m.ref m.elo m.ehi m.pulse m.time m.num m.tab _ _ _ _ _ _ _ hst) rfl ?_; clear hst; rintro e w1 ⟨b15, rfl, hb15, hst⟩; refine ⟨_, rfl, ?_⟩
  refine Ops.done rfl ?_
  cases b15
  · replace hb15 := of_decide_eq_false hb15.symm
    refine W.condF rfl rfl ?_
    refine W.skip rfl ?_
    refine W.seq rfl ?_
    refine W.region rfl ?_
    first
    | refine Ops.y rfl rfl rfl hst.ctx (Y.loadA 0 Try.isAgg28 Try.sizeOf28 rfl rfl rfl rfl) ?_
    | refine Ops.y rfl rfl rfl hst.ctx (Y.loadA 1 Try.isAgg28 Try.sizeOf28 rfl rfl rfl rfl) ?_
    | refine Ops.y rfl rfl rfl hst.ctx (Y.loadA 2 Try.isAgg28 Try.sizeOf28 rfl rfl rfl rfl) ?_
    | refine Ops.y rfl rfl rfl hst.ctx (Y.loadA 3 Try.isAgg28 Try.sizeOf28 rfl rfl rfl rfl) ?_
    | refine Ops.y rfl rfl rfl hst.ctx (Y.loadA 4 Try.isAgg28 Try.sizeOf28 rfl rfl rfl rfl) ?_
    refine Ops.x rfl rfl rfl (X.allocA hst Try.zeroValue28 ?_)
    clear hst; intro p3 w3 hst
    first
    | refine Ops.x rfl rfl rfl (X.storeS hst 0 Try.sizeOf28 rfl rfl rfl rfl rfl (Nat.le_of_ble_eq_true rfl) rfl rfl ?_)
    | refine Ops.x rfl rfl rfl (X.storeS hst 1 Try.sizeOf28 rfl rfl rfl rfl rfl (Nat.le_of_ble_eq_true rfl) rfl rfl ?_)
    | refine Ops.x rfl rfl rfl (X.storeS hst 2 Try.sizeOf28 rfl rfl rfl rfl rfl (Nat.le_of_ble_eq_true rfl) rfl rfl ?_)
    | refine Ops.x rfl rfl rfl (X.storeS hst 3 Try.sizeOf28 rfl rfl rfl rfl rfl (Nat.le_of_ble_eq_true rfl) rfl rfl ?_)
    | refine Ops.x rfl rfl rfl (X.storeS hst 4 Try.sizeOf28 rfl rfl rfl rfl rfl (Nat.le_of_ble_eq_true rfl) rfl rfl ?_)
    | refine Ops.x rfl rfl rfl (X.storeS hst 5 Try.sizeOf28 rfl rfl rfl rfl rfl (Nat.le_of_ble_eq_true rfl) rfl rfl ?_)
    clear hst; intro w5_2 hst
    try simp only [List.set_cons_zero, List.set_cons_succ, Nat.zero_add, Nat.reduceAdd, splice, List.take, List.drop, List.append_eq, List.nil_append, List.cons_append, List.length_cons, List.length_nil] at hst
    refine Ops.done rfl ?_
    refine W.seq rfl ?_
    refine W.region rfl ?_
    refine Ops.x rfl rfl rfl (X.litRow hst Try.underlying26 Try.sizeOf45 ?_)
    clear hst; intro p17 w17 hst
    first
    | refine Ops.y rfl rfl rfl hst.ctx (Y.fieldAddr fa28_10 rfl) ?_
    | refine Ops.y rfl rfl rfl hst.ctx (Y.fieldAddrP fa28_10 rfl) ?_
    first
    | refine Ops.y rfl rfl rfl hst.ctx (Y.load 0 Try.isAgg26 rfl rfl rfl) ?_
    | refine Ops.y rfl rfl rfl hst.ctx (Y.load 1 Try.isAgg26 rfl rfl rfl) ?_
    | refine Ops.y rfl rfl rfl hst.ctx (Y.load 2 Try.isAgg26 rfl rfl rfl) ?_
    | refine Ops.y rfl rfl rfl hst.ctx (Y.load 3 Try.isAgg26 rfl rfl rfl) ?_
    | refine Ops.y rfl rfl rfl hst.ctx (Y.load 4 Try.isAgg26 rfl rfl rfl) ?_
    | refine Ops.y rfl rfl rfl hst.ctx (Y.load 5 Try.isAgg26 rfl rfl rfl) ?_
    have hl24 : m.tab.length ≤ 1024 := by omega
    refine Ops.x rfl rfl rfl (X.append hst 0 Try.underlying26 infoLeap rfl rfl rfl rfl rfl hr (lcs_length _) (lcs_ones _) (by unfold maxLen; omega) (by omega) ?_)
    clear hst; intro v20 w20 hst
    rw [Nat.zero_add, List.nil_append] at hst
    obtain ⟨A20, c20, rfl, -⟩ := rowR_shape (hst.res _ (List.Mem.head _))
    refine Ops.y rfl rfl rfl hst.ctx (bd45_0 rfl) ?_
    refine Ops.x rfl rfl rfl (X.lit1 hst Try.underlying26 Try.sizeOf45 Try.zeroValue45 (by rfl) (vs := lcs [((71 : Int), (0 : Int))]) rfl (by rfl) ?_)
    clear hst; intro p22 w22 hst
    refine Ops.x rfl rfl rfl (X.append hst 1 Try.underlying26 infoLeap rfl rfl rfl rfl rfl (Rds.ofCells 0 rfl 1 1) rfl (lcs_ones _) (by unfold maxLen; omega) (by omega) ?_)
    clear hst; intro v23 w23 hst
    obtain ⟨b4, c4, rfl, h4⟩ := row_at (hst.res _ (List.Mem.tail _ (List.Mem.head _))) (by omega)
    refine Ops.y rfl rfl rfl hst.ctx (Y.assignS rfl) ?_
    refine Ops.done rfl ?_
    refine W.seq rfl ?_
    replace hst := hst.drop
    rw [← lcs_append] at hst
    refine W.region rfl ?_
    refine Ops.y rfl rfl rfl hst.ctx (Y.moveS rfl) ?_
    first
    | refine Ops.y rfl rfl rfl hst.ctx (Y.fieldAddr fa28_10 rfl) ?_
    | refine Ops.y rfl rfl rfl hst.ctx (Y.fieldAddrP fa28_10 rfl) ?_
    first
    | refine Ops.y rfl rfl rfl hst.ctx (Y.load 0 Try.isAgg26 rfl rfl rfl) ?_
    | refine Ops.y rfl rfl rfl hst.ctx (Y.load 1 Try.isAgg26 rfl rfl rfl) ?_
    | refine Ops.y rfl rfl rfl hst.ctx (Y.load 2 Try.isAgg26 rfl rfl rfl) ?_
    | refine Ops.y rfl rfl rfl hst.ctx (Y.load 3 Try.isAgg26 rfl rfl rfl) ?_
    | refine Ops.y rfl rfl rfl hst.ctx (Y.load 4 Try.isAgg26 rfl rfl rfl) ?_
    | refine Ops.y rfl rfl rfl hst.ctx (Y.load 5 Try.isAgg26 rfl rfl rfl) ?_
    refine Ops.y rfl rfl rfl hst.ctx (Y.lenS Try.underlying26 rfl) ?_
    refine Ops.y rfl rfl rfl hst.ctx (Y.sliceHi Try.underlying26 Try.sizeOf45 rfl rfl (m := m.tab.length) rfl (by omega)) ?_
    first
    | refine Ops.y rfl rfl rfl hst.ctx (Y.fieldAddr fa28_10 rfl) ?_
    | refine Ops.y rfl rfl rfl hst.ctx (Y.fieldAddrP fa28_10 rfl) ?_
    first
    | refine Ops.x rfl rfl rfl (X.storeV hst 0 (.slice _ _ _) Try.sizeOf26 rfl rfl rfl rfl (Nat.le_of_ble_eq_true rfl) rfl rfl ?_)
    | refine Ops.x rfl rfl rfl (X.storeV hst 1 (.slice _ _ _) Try.sizeOf26 rfl rfl rfl rfl (Nat.le_of_ble_eq_true rfl) rfl rfl ?_)
    | refine Ops.x rfl rfl rfl (X.storeV hst 2 (.slice _ _ _) Try.sizeOf26 rfl rfl rfl rfl (Nat.le_of_ble_eq_true rfl) rfl rfl ?_)
    | refine Ops.x rfl rfl rfl (X.storeV hst 3 (.slice _ _ _) Try.sizeOf26 rfl rfl rfl rfl (Nat.le_of_ble_eq_true rfl) rfl rfl ?_)
    | refine Ops.x rfl rfl rfl (X.storeV hst 4 (.slice _ _ _) Try.sizeOf26 rfl rfl rfl rfl (Nat.le_of_ble_eq_true rfl) rfl rfl ?_)
    | refine Ops.x rfl rfl rfl (X.storeV hst 5 (.slice _ _ _) Try.sizeOf26 rfl rfl rfl rfl (Nat.le_of_ble_eq_true rfl) rfl rfl ?_)
    clear hst; intro w7_6 hst
    try simp only [List.set_cons_zero, List.set_cons_succ, Nat.zero_add, Nat.reduceAdd, splice, List.take, List.drop, List.append_eq, List.nil_append, List.cons_append, List.length_cons, List.length_nil] at hst
    refine Ops.done rfl ?_
    refine W.seq rfl ?_
    have hrf : ∀ {L}, Rds (rowR (.slice (some ⟨b4, 0, none⟩) (m.tab.length + 1) c4) 45 2 (m.tab.length + 1) (lcs (m.tab ++ [((71 : Int), (0 : Int))])) :: L) [slR (.slice A m.tab.length cap) m.tab.length (lcs m.tab)] (.slice (some ⟨b4, 0, none⟩) m.tab.length c4) m.tab.length (lcs m.tab) := by
      intro L
      have h := (Rds.rowL 0 rfl : Rds (rowR (.slice (some ⟨b4, 0, none⟩) (m.tab.length + 1) c4) 45 2 (m.tab.length + 1) (lcs (m.tab ++ [((71 : Int), (0 : Int))])) :: L) [slR (.slice A m.tab.length cap) m.tab.length (lcs m.tab)] (.slice (some ⟨b4, 0, none⟩) (m.tab.length + 1) c4) (m.tab.length + 1) (lcs (m.tab ++ [((71 : Int), (0 : Int))]))).takeN (size := 2) (k := m.tab.length) (by rw [lcs_length, List.length_append]; rfl) (by omega)
      have e : (lcs (m.tab ++ [((71 : Int), (0 : Int))])).take (m.tab.length * 2) = lcs m.tab := by rw [lcs_append, List.take_left' (lcs_length _)]
      rw [e] at h
      exact h
    refine W.region rfl ?_
    first
    | refine Ops.y rfl rfl rfl hst.ctx (Y.loadA 0 Try.isAgg28 Try.sizeOf28 rfl rfl rfl rfl) ?_
    | refine Ops.y rfl rfl rfl hst.ctx (Y.loadA 1 Try.isAgg28 Try.sizeOf28 rfl rfl rfl rfl) ?_
    | refine Ops.y rfl rfl rfl hst.ctx (Y.loadA 2 Try.isAgg28 Try.sizeOf28 rfl rfl rfl rfl) ?_
    | refine Ops.y rfl rfl rfl hst.ctx (Y.loadA 3 Try.isAgg28 Try.sizeOf28 rfl rfl rfl rfl) ?_
    | refine Ops.y rfl rfl rfl hst.ctx (Y.loadA 4 Try.isAgg28 Try.sizeOf28 rfl rfl rfl rfl) ?_
    | refine Ops.y rfl rfl rfl hst.ctx (Y.loadA 5 Try.isAgg28 Try.sizeOf28 rfl rfl rfl rfl) ?_
    refine Ops.x rfl rfl rfl (X.call cf16 rfl ?_)
    refine use_call (Enc_eq m t e0 hE _ _ _ _ _ _ _ hst hrf hin) rfl ?_; clear hst; rintro e w1 ⟨rfl, hst⟩; refine ⟨_, rfl, ?_⟩
    refine Ops.y rfl rfl rfl hst.ctx (Y.moveU rfl) ?_
    refine Ops.y rfl rfl rfl hst.ctx (Y.extract rfl rfl) ?_
    refine Ops.y rfl rfl rfl hst.ctx (Y.extract rfl rfl) ?_
    refine Ops.y rfl rfl rfl hst.ctx (Y.assignT rfl) ?_
    refine Ops.y rfl rfl rfl hst.ctx (Y.assignI rfl) ?_
    refine Ops.done rfl ?_
    refine W.seq rfl ?_
    refine W.seq rfl ?_
    refine W.drawn rfl (by kernel_rfl) (Ctx _ _ (_) (_)) [] (.op 0 0 (.op 1 0 (.op 2 0 (.op 3 0 (.op 4 0 (.op 5 0 (.op 6 0 (.op 7 1 (.op 8 0 (.op 9 0 (.op 10 0 (.op 11 0 (.op 12 0 (.op 13 0 (.op 14 0 (.op 15 0 (.op 16 0 (.op 17 0 (.op 18 0 .nil))))))))))))))))))) rfl (by kernel_rfl) hst.drew.ctx ?_
    replace hst := hst.drew
    generalize World.drew _ = wd at hst ⊢
    refine Drw.y rfl rfl rfl hst.ctx (Y.moveS rfl) ?_
    first
    | refine Drw.y rfl rfl rfl hst.ctx (Y.fieldAddr fa28_10 rfl) ?_
    | refine Drw.y rfl rfl rfl hst.ctx (Y.fieldAddrP fa28_10 rfl) ?_
    first
    | refine Drw.y rfl rfl rfl hst.ctx (Y.load 0 Try.isAgg26 rfl rfl rfl) ?_
    | refine Drw.y rfl rfl rfl hst.ctx (Y.load 1 Try.isAgg26 rfl rfl rfl) ?_
    | refine Drw.y rfl rfl rfl hst.ctx (Y.load 2 Try.isAgg26 rfl rfl rfl) ?_
    | refine Drw.y rfl rfl rfl hst.ctx (Y.load 3 Try.isAgg26 rfl rfl rfl) ?_
    | refine Drw.y rfl rfl rfl hst.ctx (Y.load 4 Try.isAgg26 rfl rfl rfl) ?_
    | refine Drw.y rfl rfl rfl hst.ctx (Y.load 5 Try.isAgg26 rfl rfl rfl) ?_
    refine Drw.y rfl rfl rfl hst.ctx (Y.lenS Try.underlying26 rfl) ?_
    refine Drw.y rfl rfl rfl hst.ctx (Y.sliceHi Try.underlying26 Try.sizeOf45 rfl rfl (m := m.tab.length) rfl (by omega)) ?_
    first
    | refine Drw.y rfl rfl rfl hst.ctx (Y.fieldAddr fa28_10 rfl) ?_
    | refine Drw.y rfl rfl rfl hst.ctx (Y.fieldAddrP fa28_10 rfl) ?_
    first
    | refine Drw.y rfl rfl rfl hst.ctx (Y.load 0 Try.isAgg26 rfl rfl rfl) ?_
    | refine Drw.y rfl rfl rfl hst.ctx (Y.load 1 Try.isAgg26 rfl rfl rfl) ?_
    | refine Drw.y rfl rfl rfl hst.ctx (Y.load 2 Try.isAgg26 rfl rfl rfl) ?_
    | refine Drw.y rfl rfl rfl hst.ctx (Y.load 3 Try.isAgg26 rfl rfl rfl) ?_
    | refine Drw.y rfl rfl rfl hst.ctx (Y.load 4 Try.isAgg26 rfl rfl rfl) ?_
    | refine Drw.y rfl rfl rfl hst.ctx (Y.load 5 Try.isAgg26 rfl rfl rfl) ?_
    refine Drw.x rfl rfl rfl (X.call cf21 rfl ?_)
    refine use_call (tables_any m.tab m.tab hin.1 _ _ _ _ _ _ _ _ _ hst hrf hr) rfl ?_; clear hst; rintro e w1 ⟨b42, rfl, hb42, hst⟩; refine ⟨_, rfl, ⟨hst.ctx, ?_⟩⟩
    cases b42
    · replace hb42 := of_decide_eq_false hb42.symm
      exact absurd rfl hb42
    · replace hb42 := of_decide_eq_true hb42.symm
      refine Drw.y rfl rfl rfl hst.ctx (Y.not rfl) ?_
      refine Drw.y rfl rfl rfl hst.ctx (Y.moveB rfl) ?_
      refine Drw.y rfl rfl rfl hst.ctx (Y.moveS rfl) ?_
      first
      | refine Drw.y rfl rfl rfl hst.ctx (Y.fieldAddr fa28_10 rfl) ?_
      | refine Drw.y rfl rfl rfl hst.ctx (Y.fieldAddrP fa28_10 rfl) ?_
      first
      | refine Drw.y rfl rfl rfl hst.ctx (Y.load 0 Try.isAgg26 rfl rfl rfl) ?_
      | refine Drw.y rfl rfl rfl hst.ctx (Y.load 1 Try.isAgg26 rfl rfl rfl) ?_
      | refine Drw.y rfl rfl rfl hst.ctx (Y.load 2 Try.isAgg26 rfl rfl rfl) ?_
      | refine Drw.y rfl rfl rfl hst.ctx (Y.load 3 Try.isAgg26 rfl rfl rfl) ?_
      | refine Drw.y rfl rfl rfl hst.ctx (Y.load 4 Try.isAgg26 rfl rfl rfl) ?_
      | refine Drw.y rfl rfl rfl hst.ctx (Y.load 5 Try.isAgg26 rfl rfl rfl) ?_
      refine Drw.y rfl rfl rfl hst.ctx (Y.lenS Try.underlying26 rfl) ?_
      refine Drw.y rfl rfl rfl hst.ctx (Y.indexAddr Try.underlying26 Try.sizeOf45 rfl rfl (by simp) (by omega)) ?_
      refine Drw.y rfl rfl rfl hst.ctx (Y.loadSlA Try.isAgg45 Try.sizeOf45 rfl (Rds.rowL 0 rfl) (lcs_two (l := (m.tab ++ [((71 : Int), (0 : Int))])) (k := m.tab.length) (by simp)) rfl) ?_
      refine Drw.y rfl rfl rfl hst.ctx (bd45_0 rfl) ?_
      refine Drw.yb rfl rfl rfl hst.ctx (Y.ne2 eqg_leap eq2_leap rfl rfl) (fun b52 hb52 => ?_)
      refine Drw.y rfl rfl rfl hst.ctx (Y.pick (.bool _) rfl rfl) ?_
      refine Drw.done ?_
      cases b52
      · replace hb52 := of_decide_eq_false hb52.symm
        refine W.condF rfl rfl ?_
        refine W.skip rfl ?_
        refine W.seq rfl ?_
        refine W.seq rfl ?_
        refine W.region rfl ?_
        refine Ops.y rfl rfl rfl hst.ctx (Y.moveI rfl) ?_
        refine Ops.yb rfl rfl rfl hst.ctx (Y.neq rfl rfl) (fun b55 hb55 => ?_)
        refine Ops.done rfl ?_
        cases b55
        · replace hb55 := of_decide_eq_false hb55.symm
          refine W.condF rfl rfl ?_
          refine W.skip rfl ?_
          refine W.seq rfl ?_
          refine W.region rfl ?_
          refine Ops.y rfl rfl rfl hst.ctx (Y.moveT rfl) ?_
          refine Ops.x rfl rfl rfl (X.call cf18 rfl ?_)
          refine use_call (Dec_enc m t e0 hE (by omega) hin _ _ _ _ _ hst) rfl ?_; clear hst; rintro e w2 ⟨A13, c13, rfl, hst⟩; refine ⟨_, rfl, ?_⟩
          refine Ops.y rfl rfl rfl hst.ctx (Y.moveU rfl) ?_
          refine Ops.y rfl rfl rfl hst.ctx (Y.extract rfl rfl) ?_
          refine Ops.y rfl rfl rfl hst.ctx (Y.extract rfl rfl) ?_
          refine Ops.x rfl rfl rfl (X.allocA hst Try.zeroValue28 ?_)
          clear hst; intro p7 w7 hst
          first
          | refine Ops.x rfl rfl rfl (X.storeS hst 0 Try.sizeOf28 rfl rfl rfl rfl rfl (Nat.le_of_ble_eq_true rfl) rfl rfl ?_)
          | refine Ops.x rfl rfl rfl (X.storeS hst 1 Try.sizeOf28 rfl rfl rfl rfl rfl (Nat.le_of_ble_eq_true rfl) rfl rfl ?_)
          | refine Ops.x rfl rfl rfl (X.storeS hst 2 Try.sizeOf28 rfl rfl rfl rfl rfl (Nat.le_of_ble_eq_true rfl) rfl rfl ?_)
          | refine Ops.x rfl rfl rfl (X.storeS hst 3 Try.sizeOf28 rfl rfl rfl rfl rfl (Nat.le_of_ble_eq_true rfl) rfl rfl ?_)
          | refine Ops.x rfl rfl rfl (X.storeS hst 4 Try.sizeOf28 rfl rfl rfl rfl rfl (Nat.le_of_ble_eq_true rfl) rfl rfl ?_)
          | refine Ops.x rfl rfl rfl (X.storeS hst 5 Try.sizeOf28 rfl rfl rfl rfl rfl (Nat.le_of_ble_eq_true rfl) rfl rfl ?_)
          | refine Ops.x rfl rfl rfl (X.storeS hst 6 Try.sizeOf28 rfl rfl rfl rfl rfl (Nat.le_of_ble_eq_true rfl) rfl rfl ?_)
          clear hst; intro w13_6 hst
          try simp only [List.set_cons_zero, List.set_cons_succ, Nat.zero_add, Nat.reduceAdd, splice, List.take, List.drop, List.append_eq, List.nil_append, List.cons_append, List.length_cons, List.length_nil] at hst
          refine Ops.y rfl rfl rfl hst.ctx (Y.assignI rfl) ?_
          refine Ops.done rfl ?_
          refine W.seq rfl ?_
          refine W.seq rfl ?_
          replace hst := hst.swap
          obtain ⟨rx, hst', hrx⟩ := rowAny hst
          clear hst; have hst := hst'.swap; clear hst'
          refine W.region rfl ?_
          first
          | refine Ops.y rfl rfl rfl hst.ctx (Y.fieldAddr fa28_10 rfl) ?_
          | refine Ops.y rfl rfl rfl hst.ctx (Y.fieldAddrP fa28_10 rfl) ?_
          first
          | refine Ops.y rfl rfl rfl hst.ctx (Y.load 0 Try.isAgg26 rfl rfl rfl) ?_
          | refine Ops.y rfl rfl rfl hst.ctx (Y.load 1 Try.isAgg26 rfl rfl rfl) ?_
          | refine Ops.y rfl rfl rfl hst.ctx (Y.load 2 Try.isAgg26 rfl rfl rfl) ?_
          | refine Ops.y rfl rfl rfl hst.ctx (Y.load 3 Try.isAgg26 rfl rfl rfl) ?_
          | refine Ops.y rfl rfl rfl hst.ctx (Y.load 4 Try.isAgg26 rfl rfl rfl) ?_
          | refine Ops.y rfl rfl rfl hst.ctx (Y.load 5 Try.isAgg26 rfl rfl rfl) ?_
          | refine Ops.y rfl rfl rfl hst.ctx (Y.load 6 Try.isAgg26 rfl rfl rfl) ?_
          refine Ops.y rfl rfl rfl hst.ctx (Y.lenS Try.underlying26 rfl) ?_
          refine Ops.y rfl rfl rfl hst.ctx (Y.moveI rfl) ?_
          refine Ops.done rfl ?_
          refine W.block rfl ?_
          refine W.loop (γ := Nat) [(1, .pointer _), (5, .string _), (7, .pointer _), (65, .int _ _)] (fun k => [(66, .int .i64 (k : Int))]) (fun k w => k ≤ m.tab.length ∧ ∃ rx, St w0 [] w [cellsR p7 [.int .i64 m.kind, .int .i64 m.from_, .int .i64 m.slo, .int .i64 m.shi, .int .i64 m.held, .int .i64 m.hops, .bool m.good, .bool m.ref, .int .i64 m.elo, .int .i64 m.ehi, .int .i64 m.pulse, .int .i64 m.time, .int .i64 m.num, .slice A13 m.tab.length c13] 28, rx, rowR (.slice (some ⟨b4, 0, none⟩) (m.tab.length + 1) c4) 45 2 (m.tab.length + 1) (lcs (m.tab ++ [((71 : Int), (0 : Int))])), cellsR p3 [.int .i64 m.kind, .int .i64 m.from_, .int .i64 m.slo, .int .i64 m.shi, .int .i64 m.held, .int .i64 m.hops, .bool m.good, .bool m.ref, .int .i64 m.elo, .int .i64 m.ehi, .int .i64 m.pulse, .int .i64 m.time, .int .i64 m.num, .slice (some ⟨b4, 0, none⟩) m.tab.length c4] 28, cellsR p1 [.int .i64 m.kind, .int .i64 m.from_, .int .i64 m.slo, .int .i64 m.shi, .int .i64 m.held, .int .i64 m.hops, .bool m.good, .bool m.ref, .int .i64 m.elo, .int .i64 m.ehi, .int .i64 m.pulse, .int .i64 m.time, .int .i64 m.num, .slice A m.tab.length cap] 28] [slR (.slice A m.tab.length cap) m.tab.length (lcs m.tab)] ∧ (0 < m.tab.length → ∃ b cs, A13 = some ⟨b, 0, none⟩ ∧ rx = cellsR b cs 45 ∧ m.tab.length * 2 ≤ cs.length)) (fun k => m.tab.length - k) (0) rfl ⟨rfl, rfl, rfl, rfl, trivial⟩ ?_ ?_ ?_
          · exact ⟨rfl, trivial⟩
          · exact ⟨by omega, rx, hst, hrx⟩
          · clear hst hrx rx; rintro k j w15 ⟨hk, rx, hst, hrx⟩
            refine W.seq rfl ?_
            refine W.region rfl ?_
            refine Ops.yb rfl rfl rfl hst.ctx (Y.lss rfl rfl) (fun b67 hb67 => ?_)
            refine Ops.done rfl ?_
            refine W.seq rfl ?_
            cases b67
            · replace hb67 := of_decide_eq_false hb67.symm
              refine W.condF rfl rfl ?_
              refine W.exit rfl ?_
              refine W.seq rfl ?_
              refine W.region rfl ?_
              refine Ops.y rfl rfl rfl hst.ctx (Y.moveT rfl) ?_
              refine Ops.x rfl rfl rfl (X.call cf18 rfl ?_)
              refine use_call (Dec_enc m t e0 hE (by omega) hin _ _ _ _ _ hst) rfl ?_; clear hst; rintro e w2 ⟨A19, c19, rfl, hst⟩; refine ⟨_, rfl, ?_⟩
              refine Ops.y rfl rfl rfl hst.ctx (Y.moveU rfl) ?_
              refine Ops.y rfl rfl rfl hst.ctx (Y.extract rfl rfl) ?_
              refine Ops.y rfl rfl rfl hst.ctx (Y.extract rfl rfl) ?_
              refine Ops.x rfl rfl rfl (X.allocA hst Try.zeroValue28 ?_)
              clear hst; intro p10 w10 hst
              first
              | refine Ops.x rfl rfl rfl (X.storeS hst 0 Try.sizeOf28 rfl rfl rfl rfl rfl (Nat.le_of_ble_eq_true rfl) rfl rfl ?_)
              | refine Ops.x rfl rfl rfl (X.storeS hst 1 Try.sizeOf28 rfl rfl rfl rfl rfl (Nat.le_of_ble_eq_true rfl) rfl rfl ?_)
              | refine Ops.x rfl rfl rfl (X.storeS hst 2 Try.sizeOf28 rfl rfl rfl rfl rfl (Nat.le_of_ble_eq_true rfl) rfl rfl ?_)
              | refine Ops.x rfl rfl rfl (X.storeS hst 3 Try.sizeOf28 rfl rfl rfl rfl rfl (Nat.le_of_ble_eq_true rfl) rfl rfl ?_)
              | refine Ops.x rfl rfl rfl (X.storeS hst 4 Try.sizeOf28 rfl rfl rfl rfl rfl (Nat.le_of_ble_eq_true rfl) rfl rfl ?_)
              | refine Ops.x rfl rfl rfl (X.storeS hst 5 Try.sizeOf28 rfl rfl rfl rfl rfl (Nat.le_of_ble_eq_true rfl) rfl rfl ?_)
              | refine Ops.x rfl rfl rfl (X.storeS hst 6 Try.sizeOf28 rfl rfl rfl rfl rfl (Nat.le_of_ble_eq_true rfl) rfl rfl ?_)
              | refine Ops.x rfl rfl rfl (X.storeS hst 7 Try.sizeOf28 rfl rfl rfl rfl rfl (Nat.le_of_ble_eq_true rfl) rfl rfl ?_)
              clear hst; intro w19_6 hst
              try simp only [List.set_cons_zero, List.set_cons_succ, Nat.zero_add, Nat.reduceAdd, splice, List.take, List.drop, List.append_eq, List.nil_append, List.cons_append, List.length_cons, List.length_nil] at hst
              refine Ops.y rfl rfl rfl hst.ctx (Y.assignI rfl) ?_
              refine Ops.done rfl ?_
              refine W.seq rfl ?_
              refine W.region rfl ?_
              refine Ops.y rfl rfl rfl hst.ctx (Y.moveI rfl) ?_
              refine Ops.yb rfl rfl rfl hst.ctx (Y.eql rfl rfl) (fun b81 hb81 => ?_)
              refine Ops.y rfl rfl rfl hst.ctx (Y.moveB rfl) ?_
              cases b81
              · replace hb81 := of_decide_eq_false hb81.symm
                exact absurd rfl hb81
              · replace hb81 := of_decide_eq_true hb81.symm
                first
                | refine Ops.y rfl rfl rfl hst.ctx (Y.loadA 0 Try.isAgg28 Try.sizeOf28 rfl rfl rfl rfl) ?_
                | refine Ops.y rfl rfl rfl hst.ctx (Y.loadA 1 Try.isAgg28 Try.sizeOf28 rfl rfl rfl rfl) ?_
                | refine Ops.y rfl rfl rfl hst.ctx (Y.loadA 2 Try.isAgg28 Try.sizeOf28 rfl rfl rfl rfl) ?_
                | refine Ops.y rfl rfl rfl hst.ctx (Y.loadA 3 Try.isAgg28 Try.sizeOf28 rfl rfl rfl rfl) ?_
                | refine Ops.y rfl rfl rfl hst.ctx (Y.loadA 4 Try.isAgg28 Try.sizeOf28 rfl rfl rfl rfl) ?_
                | refine Ops.y rfl rfl rfl hst.ctx (Y.loadA 5 Try.isAgg28 Try.sizeOf28 rfl rfl rfl rfl) ?_
                | refine Ops.y rfl rfl rfl hst.ctx (Y.loadA 6 Try.isAgg28 Try.sizeOf28 rfl rfl rfl rfl) ?_
                | refine Ops.y rfl rfl rfl hst.ctx (Y.loadA 7 Try.isAgg28 Try.sizeOf28 rfl rfl rfl rfl) ?_
                first
                | refine Ops.y rfl rfl rfl hst.ctx (Y.loadA 0 Try.isAgg28 Try.sizeOf28 rfl rfl rfl rfl) ?_
                | refine Ops.y rfl rfl rfl hst.ctx (Y.loadA 1 Try.isAgg28 Try.sizeOf28 rfl rfl rfl rfl) ?_
                | refine Ops.y rfl rfl rfl hst.ctx (Y.loadA 2 Try.isAgg28 Try.sizeOf28 rfl rfl rfl rfl) ?_
                | refine Ops.y rfl rfl rfl hst.ctx (Y.loadA 3 Try.isAgg28 Try.sizeOf28 rfl rfl rfl rfl) ?_
                | refine Ops.y rfl rfl rfl hst.ctx (Y.loadA 4 Try.isAgg28 Try.sizeOf28 rfl rfl rfl rfl) ?_
                | refine Ops.y rfl rfl rfl hst.ctx (Y.loadA 5 Try.isAgg28 Try.sizeOf28 rfl rfl rfl rfl) ?_
                | refine Ops.y rfl rfl rfl hst.ctx (Y.loadA 6 Try.isAgg28 Try.sizeOf28 rfl rfl rfl rfl) ?_
                | refine Ops.y rfl rfl rfl hst.ctx (Y.loadA 7 Try.isAgg28 Try.sizeOf28 rfl rfl rfl rfl) ?_
                refine Ops.x rfl rfl rfl (X.call cf20 rfl ?_)
                refine use_call (same_any m m hin.1 _ _ _ _ _ _ _ _ _ hst (Rds.rowL 1 rfl) hr) rfl ?_; clear hst; rintro e w1 ⟨b85, rfl, hb85, hst⟩; refine ⟨_, rfl, ?_⟩
                refine Ops.y rfl rfl rfl hst.ctx (Y.pick (.bool _) rfl rfl) ?_
                refine Ops.y rfl rfl rfl hst.ctx (Y.assignB rfl) ?_
                refine Ops.done rfl ?_
                refine W.ret rfl ?_
                cases b85
                · replace hb85 := of_decide_eq_false hb85.symm
                  exact absurd (same_iff.2 rfl) hb85
                · replace hb85 := of_decide_eq_true hb85.symm
                  refine ⟨_, Rslt.one Try.results8 rfl, ?_⟩
                  exact ⟨rfl, (St.drop (St.drop (St.drop (St.drop (St.drop (St.drop (St.drop hst))))))).below⟩
            · replace hb67 := of_decide_eq_true hb67.symm
              refine W.condT rfl rfl ?_
              refine W.skip rfl ?_
              refine W.seq rfl ?_
              refine W.block rfl ?_
              refine W.seq rfl ?_
              refine W.region rfl ?_
              refine Ops.y rfl rfl rfl hst.ctx (Y.moveI rfl) ?_
              refine Ops.y rfl rfl rfl hst.ctx (Y.assignI rfl) ?_
              refine Ops.done rfl ?_
              have hk1 : k < m.tab.length := by omega
              obtain ⟨bx, cs, rfl, rfl, hcl⟩ := hrx (by omega)
              refine W.region rfl ?_
              first
              | refine Ops.y rfl rfl rfl hst.ctx (Y.fieldAddr fa28_10 rfl) ?_
              | refine Ops.y rfl rfl rfl hst.ctx (Y.fieldAddrP fa28_10 rfl) ?_
              first
              | refine Ops.y rfl rfl rfl hst.ctx (Y.load 0 Try.isAgg26 rfl rfl rfl) ?_
              | refine Ops.y rfl rfl rfl hst.ctx (Y.load 1 Try.isAgg26 rfl rfl rfl) ?_
              | refine Ops.y rfl rfl rfl hst.ctx (Y.load 2 Try.isAgg26 rfl rfl rfl) ?_
              | refine Ops.y rfl rfl rfl hst.ctx (Y.load 3 Try.isAgg26 rfl rfl rfl) ?_
              | refine Ops.y rfl rfl rfl hst.ctx (Y.load 4 Try.isAgg26 rfl rfl rfl) ?_
              | refine Ops.y rfl rfl rfl hst.ctx (Y.load 5 Try.isAgg26 rfl rfl rfl) ?_
              | refine Ops.y rfl rfl rfl hst.ctx (Y.load 6 Try.isAgg26 rfl rfl rfl) ?_
              refine Ops.y rfl rfl rfl hst.ctx (Y.moveI rfl) ?_
              refine Ops.y rfl rfl rfl hst.ctx (bd45_ rfl) ?_
              refine Ops.y rfl rfl rfl hst.ctx (Y.indexAddrC Try.underlying26 Try.sizeOf45 rfl rfl (by omega)) ?_
              refine Ops.x rfl rfl rfl (X.storeS hst 1 Try.sizeOf45 rfl rfl (vs := [.int .i64 0, .int .i64 0]) rfl rfl rfl (by omega) rfl rfl ?_)
              clear hst; intro w175 hst
              refine Ops.done rfl ?_
              refine W.region rfl ?_
              refine Ops.y rfl rfl rfl hst.ctx (Y.addI rfl rfl (by omega)) ?_
              refine Ops.y rfl rfl rfl hst.ctx (Y.moveI rfl) ?_
              refine Ops.done rfl ?_
              exact ⟨k + 1, ⟨rfl, trivial⟩, ⟨rfl, rfl, rfl, rfl, trivial⟩, ⟨by omega, _, hst, fun _ => ⟨bx, _, rfl, rfl, by rw [splice_length _ _ _ (by simp; omega)]; omega⟩⟩, by omega⟩
        · replace hb55 := of_decide_eq_true hb55.symm
          refine W.condT rfl rfl ?_
          refine W.seq rfl ?_
          refine W.region rfl ?_
          refine Ops.y rfl rfl rfl hst.ctx (Y.moveT rfl) ?_
          refine Ops.yb rfl rfl rfl hst.ctx (Y.eqT rfl rfl) (fun b57 hb57 => ?_)
          refine Ops.y rfl rfl rfl hst.ctx (Y.assignB rfl) ?_
          refine Ops.done rfl ?_
          refine W.ret rfl ?_
          cases b57
          · replace hb57 := of_decide_eq_false hb57.symm
            exact absurd (enc_more hE hb55) hb57
          · replace hb57 := of_decide_eq_true hb57.symm
            refine ⟨_, Rslt.one Try.results8 rfl, ?_⟩
            exact ⟨rfl, (St.drop (St.drop (St.drop hst))).below⟩
      · replace hb52 := of_decide_eq_true hb52.symm
        exact absurd (by simp [lp]) hb52
  · replace hb15 := of_decide_eq_true hb15.symm
    refine W.condT rfl rfl ?_
    refine W.seq rfl ?_
    refine W.region rfl ?_
    refine Ops.y rfl rfl rfl hst.ctx (Y.assignB rfl) ?_
    refine Ops.done rfl ?_
    refine W.ret rfl ?_
    refine ⟨_, Rslt.one Try.results8 rfl, ?_⟩
    exact ⟨rfl, (St.drop hst).below⟩
end Go.Proofs.Ytkbkgpedpaodlaa.W
