/- The walks of wire's in, Table, Good and of the reference's Table, far, Good. -/
import Derived.Test.YtkbkgpedpaodlaaProg
import Derived.Test.YtkbkgpedpaodlaaE1
set_option linter.unusedVariables false
set_option linter.unusedSimpArgs false
namespace Go.Proofs.Ytkbkgpedpaodlaa.W
open Go.RowKit Go.Proofs.Ytkbkgpedpaodlaa.K
theorem fa23_0 (a : Addr) (w : World) : (Instr.fieldAt 23 (.pointer (some a)) 0).run Try.prog w = .ok (.pointer (some (a.add 0))) w := by
  simp [Instr.fieldAt, Instr.sureAddr, go_sem]
theorem fa23_1 (a : Addr) (w : World) : (Instr.fieldAt 23 (.pointer (some a)) 1).run Try.prog w = .ok (.pointer (some (a.add 1))) w := by
  simp [Instr.fieldAt, Instr.sureAddr, go_sem]
theorem fa25_0 (a : Addr) (w : World) : (Instr.fieldAt 25 (.pointer (some a)) 0).run Try.prog w = .ok (.pointer (some (a.add 0))) w := by
  simp [Instr.fieldAt, Instr.sureAddr, go_sem]
theorem fa25_1 (a : Addr) (w : World) : (Instr.fieldAt 25 (.pointer (some a)) 1).run Try.prog w = .ok (.pointer (some (a.add 1))) w := by
  simp [Instr.fieldAt, Instr.sureAddr, go_sem]
theorem fa28_0 (a : Addr) (w : World) : (Instr.fieldAt 28 (.pointer (some a)) 0).run Try.prog w = .ok (.pointer (some (a.add 0))) w := by
  simp [Instr.fieldAt, Instr.sureAddr, go_sem]
theorem fa28_1 (a : Addr) (w : World) : (Instr.fieldAt 28 (.pointer (some a)) 1).run Try.prog w = .ok (.pointer (some (a.add 1))) w := by
  simp [Instr.fieldAt, Instr.sureAddr, go_sem]
theorem fa28_2 (a : Addr) (w : World) : (Instr.fieldAt 28 (.pointer (some a)) 2).run Try.prog w = .ok (.pointer (some (a.add 2))) w := by
  simp [Instr.fieldAt, Instr.sureAddr, go_sem]
theorem fa28_3 (a : Addr) (w : World) : (Instr.fieldAt 28 (.pointer (some a)) 3).run Try.prog w = .ok (.pointer (some (a.add 4))) w := by
  simp [Instr.fieldAt, Instr.sureAddr, go_sem]
theorem fa28_4 (a : Addr) (w : World) : (Instr.fieldAt 28 (.pointer (some a)) 4).run Try.prog w = .ok (.pointer (some (a.add 5))) w := by
  simp [Instr.fieldAt, Instr.sureAddr, go_sem]
theorem fa28_7 (a : Addr) (w : World) : (Instr.fieldAt 28 (.pointer (some a)) 7).run Try.prog w = .ok (.pointer (some (a.add 8))) w := by
  simp [Instr.fieldAt, Instr.sureAddr, go_sem]
theorem fa28_8 (a : Addr) (w : World) : (Instr.fieldAt 28 (.pointer (some a)) 8).run Try.prog w = .ok (.pointer (some (a.add 10))) w := by
  simp [Instr.fieldAt, Instr.sureAddr, go_sem]
theorem fa28_9 (a : Addr) (w : World) : (Instr.fieldAt 28 (.pointer (some a)) 9).run Try.prog w = .ok (.pointer (some (a.add 11))) w := by
  simp [Instr.fieldAt, Instr.sureAddr, go_sem]
theorem fa28_10 (a : Addr) (w : World) : (Instr.fieldAt 28 (.pointer (some a)) 10).run Try.prog w = .ok (.pointer (some (a.add 13))) w := by
  simp [Instr.fieldAt, Instr.sureAddr, go_sem]
theorem fa45_0 (a : Addr) (w : World) : (Instr.fieldAt 45 (.pointer (some a)) 0).run Try.prog w = .ok (.pointer (some (a.add 0))) w := by
  simp [Instr.fieldAt, Instr.sureAddr, go_sem]
theorem fa45_1 (a : Addr) (w : World) : (Instr.fieldAt 45 (.pointer (some a)) 1).run Try.prog w = .ok (.pointer (some (a.add 1))) w := by
  simp [Instr.fieldAt, Instr.sureAddr, go_sem]
theorem cf13 : ∀ args w, (callFunc 13 args).run Try.prog w = .ok (.enter 13 args) w := fun _ _ => by simp [go_sem]
theorem cf14 : ∀ args w, (callFunc 14 args).run Try.prog w = .ok (.enter 14 args) w := fun _ _ => by simp [go_sem]
theorem cf22 : ∀ args w, (callFunc 22 args).run Try.prog w = .ok (.enter 22 args) w := fun _ _ => by simp [go_sem]
theorem cf23 : ∀ args w, (callFunc 23 args).run Try.prog w = .ok (.enter 23 args) w := fun _ _ => by simp [go_sem]
def In64 (x : Int) : Prop := -9223372036854775808 ≤ x ∧ x ≤ 9223372036854775807
@[reducible] def i64 (x : Int) : Value := .int .i64 x
def ivs (l : List Int) : List Value := l.map i64
/-- The cells of a leap table's entries. -/
def lcs (l : List (Int × Int)) : List Value := l.flatMap fun x => [i64 x.1, i64 x.2]
theorem lcs_length (l : List (Int × Int)) : (lcs l).length = l.length * 2 := by
  induction l with
  | nil => rfl
  | cons x l ih => simp [lcs] at ih ⊢; omega
theorem lcs_cons (x : Int × Int) (l : List (Int × Int)) : lcs (x :: l) = i64 x.1 :: i64 x.2 :: lcs l := rfl
theorem lcs_append (l m : List (Int × Int)) : lcs (l ++ m) = lcs l ++ lcs m := by simp [lcs]
def lp (l : List (Int × Int)) (k : Nat) : Int × Int := l.getD k (0, 0)
theorem lcs_get (l : List (Int × Int)) : ∀ k, k < l.length → (lcs l)[k * 2]? = some (i64 (lp l k).1) ∧ (lcs l)[k * 2 + 1]? = some (i64 (lp l k).2) := by
  induction l with
  | nil => intro k h; simp at h
  | cons x l ih =>
    intro k h
    rw [lcs_cons]
    cases k with
    | zero => simp [lp]
    | succ k =>
      have h1 := ih k (by simpa using h)
      rw [show (k + 1) * 2 = k * 2 + 2 by omega, show k * 2 + 2 + 1 = k * 2 + 1 + 2 by omega]
      simpa [lp] using h1
theorem lp_mem {l : List (Int × Int)} {k : Nat} (h : k < l.length) : lp l k ∈ l := by
  unfold lp
  rw [List.getD_eq_getElem?_getD, List.getElem?_eq_getElem h]
  simp
/-- The offset ahead of the k-th entry. -/
def po (l : List (Int × Int)) (k : Nat) : Int := if k = 0 then 0 else (lp l (k - 1)).2
def okAt (l : List (Int × Int)) (k : Nat) : Prop :=
  0 ≤ (lp l k).1 ∧ (lp l k).1 ≤ 1099511627776 ∧ -32 ≤ (lp l k).2 ∧ (lp l k).2 ≤ 32 ∧ (k = 0 ∨ 86400 ≤ (lp l k).1 - (lp l (k - 1)).1) ∧ ((lp l k).2 - po l k = 1 ∨ (lp l k).2 - po l k = -1)
instance (l : List (Int × Int)) (k : Nat) : Decidable (okAt l k) := by unfold okAt; infer_instance
/-- What the document says of a leap table. -/
def TabOk (l : List (Int × Int)) : Prop := l.length ≤ 32 ∧ ∀ k, k < l.length → okAt l k
instance (l : List (Int × Int)) : Decidable (TabOk l) := by unfold TabOk; infer_instance
theorem tab_yes {l : List (Int × Int)} (h1 : l.length ≤ 32) (h2 : ∀ k, k < l.length → okAt l k) : decide (TabOk l) = true := by simpa using ⟨h1, h2⟩
theorem tab_no {l : List (Int × Int)} {k : Nat} (h1 : k < l.length) (h2 : ¬ okAt l k) : decide (TabOk l) = false := by
  simp only [decide_eq_false_iff_not]
  exact fun h => h2 (h.2 k h1)
theorem tab_long {l : List (Int × Int)} (h1 : 32 < l.length) : decide (TabOk l) = false := by
  simp only [decide_eq_false_iff_not]
  exact fun h => by have := h.1; omega
theorem po_range {l : List (Int × Int)} {k : Nat} (h : ∀ j, j < k → okAt l j) : -32 ≤ po l k ∧ po l k ≤ 32 := by
  unfold po
  split
  · omega
  · have := h (k - 1) (by omega)
    unfold okAt at this
    omega


theorem ivs_get {l : List Int} {k : Nat} (h : k < l.length) : (ivs l)[(k : Int).toNat * 1]? = some (i64 (l.getD k 0)) := by
  simp [ivs, h]
theorem getD_mem {l : List Int} {k : Nat} (h : k < l.length) : l.getD k 0 ∈ l := by simp [h]
theorem lcs_two {l : List (Int × Int)} {k : Nat} (h : k < l.length) : ((lcs l).drop ((k : Int).toNat * 2)).take 2 = [i64 (lp l k).1, i64 (lp l k).2] := by
  rw [Int.toNat_natCast]
  obtain ⟨h1, h2⟩ := lcs_get l k h
  have hl := lcs_length l
  apply List.ext_getElem?
  intro j
  rw [List.getElem?_take]
  rcases j with _ | _ | j
  · simp [h1]
  · simp [h2]
  · simp; omega
theorem po_succ (l : List (Int × Int)) (k : Nat) : po l (k + 1) = (lp l k).2 := by simp [po]
set_option maxHeartbeats 1000000 in
theorem in_b (lo hi : Int) (v : Value) (l : List Int) (Wd : World) (p : Prop) [Decidable p] (h : Sl Wd v l.length (ivs l)) (hl : l.length ≤ 9223372036854775807) (hp : (∀ x ∈ l, lo ≤ x ∧ x ≤ hi) ↔ p) :
    Calls Try.prog 22 #[.int .i64 lo, .int .i64 hi, v] Wd fun e w' => ∃ b, e = .returned (.bool b) ∧ b = decide p ∧ Wd = w' := by
  have hs := h
  obtain ⟨A, cap, rfl, hcap, hA⟩ := h
  clear hA
  refine W.func Try.func22 rfl Try.ntmps22 rfl ?_
  refine W.seq rfl ?_
  refine W.region rfl ?_
  refine Ops.y rfl rfl rfl (at_ _) (Y.assignB rfl) ?_
  refine Ops.done rfl ?_
  refine W.seq rfl ?_
  refine W.seq rfl ?_
  refine W.region rfl ?_
  refine Ops.y rfl rfl rfl (at_ _) (Y.moveS rfl) ?_
  refine Ops.y rfl rfl rfl (at_ _) (Y.lenS Try.underlying70 rfl) ?_
  refine Ops.y rfl rfl rfl (at_ _) (Y.moveI rfl) ?_
  refine Ops.done rfl ?_
  refine W.block rfl ?_
  refine W.loop (γ := Nat) [(0, .int _ _), (1, .int _ _), (9, .slice _ _ _), (10, .int _ _)] (fun k => [(11, .int .i64 (k : Int))]) (fun k w => k ≤ l.length ∧ (∀ j, j < k → lo ≤ l.getD j 0 ∧ l.getD j 0 ≤ hi) ∧ w = Wd) (fun k => l.length - k) (0) rfl ⟨rfl, rfl, rfl, rfl, trivial⟩ ?_ ?_ ?_
  · exact ⟨rfl, trivial⟩
  · exact ⟨by omega, fun j hj => by omega, rfl⟩
  · rintro k j w' ⟨hk, hall, rfl⟩
    refine W.seq rfl ?_
    refine W.region rfl ?_
    refine Ops.yb rfl rfl rfl (at_ _) (Y.lss rfl rfl) (fun b12 hb12 => ?_)
    refine Ops.done rfl ?_
    refine W.seq rfl ?_
    cases b12
    · replace hb12 := of_decide_eq_false hb12.symm
      refine W.condF rfl rfl ?_
      refine W.exit rfl ?_
      refine W.seq rfl ?_
      refine W.region rfl ?_
      refine Ops.y rfl rfl rfl (at_ _) (Y.assignB rfl) ?_
      refine Ops.done rfl ?_
      refine W.ret rfl ?_
      refine ⟨_, Rslt.one Try.results22 rfl, ?_⟩
      refine ⟨_, rfl, ?_, rfl⟩
      rw [decide_eq_decide.2 hp.symm]
      first | exact (decide_eq_true (fun x hx => by obtain ⟨j, hj, rfl⟩ := List.mem_iff_getElem.1 hx; have := hall j (by omega); simpa [hj] using this)).symm | exact (decide_eq_false (fun h => by have := h _ hm; omega)).symm
    · replace hb12 := of_decide_eq_true hb12.symm
      refine W.condT rfl rfl ?_
      refine W.skip rfl ?_
      refine W.seq rfl ?_
      refine W.block rfl ?_
      refine W.seq rfl ?_
      refine W.region rfl ?_
      have hk1 : k < l.length := by omega
      have hm := getD_mem hk1
      refine Ops.y rfl rfl rfl (at_ _) (Y.indexAddr Try.underlying70 Try.sizeOf3 rfl rfl (hs.ne (by simp [ivs]; omega)) (by omega)) ?_
      refine Ops.y rfl rfl rfl (at_ _) (Y.loadSlW Try.isAgg3 rfl hs (ivs_get hk1)) ?_
      refine Ops.y rfl rfl rfl (at_ _) (Y.assignI rfl) ?_
      refine Ops.done rfl ?_
      refine W.seq rfl ?_
      refine W.region rfl ?_
      refine Ops.y rfl rfl rfl (at_ _) (Y.moveI rfl) ?_
      refine Ops.y rfl rfl rfl (at_ _) (Y.moveI rfl) ?_
      refine Ops.yb rfl rfl rfl (at_ _) (Y.lss rfl rfl) (fun b17 hb17 => ?_)
      refine Ops.y rfl rfl rfl (at_ _) (Y.moveB rfl) ?_
      cases b17
      · replace hb17 := of_decide_eq_false hb17.symm
        refine Ops.y rfl rfl rfl (at_ _) (Y.moveI rfl) ?_
        refine Ops.y rfl rfl rfl (at_ _) (Y.moveI rfl) ?_
        refine Ops.yb rfl rfl rfl (at_ _) (Y.gtr rfl rfl) (fun b21 hb21 => ?_)
        refine Ops.y rfl rfl rfl (at_ _) (Y.pick (.bool _) rfl rfl) ?_
        refine Ops.done rfl ?_
        cases b21
        · replace hb21 := of_decide_eq_false hb21.symm
          refine W.condF rfl rfl ?_
          refine W.skip rfl ?_
          refine W.region rfl ?_
          refine Ops.y rfl rfl rfl (at_ _) (Y.addI rfl rfl (by omega)) ?_
          refine Ops.y rfl rfl rfl (at_ _) (Y.moveI rfl) ?_
          refine Ops.done rfl ?_
          exact ⟨k + 1, ⟨rfl, trivial⟩, ⟨rfl, rfl, rfl, rfl, trivial⟩, ⟨by omega, fun j hj => by rcases Nat.lt_succ_iff_lt_or_eq.1 hj with h | h; exact hall j h; subst h; omega, rfl⟩, by omega⟩
        · replace hb21 := of_decide_eq_true hb21.symm
          refine W.condT rfl rfl ?_
          refine W.seq rfl ?_
          refine W.region rfl ?_
          refine Ops.y rfl rfl rfl (at_ _) (Y.assignB rfl) ?_
          refine Ops.done rfl ?_
          refine W.ret rfl ?_
          refine ⟨_, Rslt.one Try.results22 rfl, ?_⟩
          refine ⟨_, rfl, ?_, rfl⟩
          rw [decide_eq_decide.2 hp.symm]
          first | exact (decide_eq_true (fun x hx => by obtain ⟨j, hj, rfl⟩ := List.mem_iff_getElem.1 hx; have := hall j (by omega); simpa [hj] using this)).symm | exact (decide_eq_false (fun h => by have := h _ hm; omega)).symm
      · replace hb17 := of_decide_eq_true hb17.symm
        refine Ops.no rfl rfl rfl ?_
        refine Ops.no rfl rfl rfl ?_
        refine Ops.no rfl rfl rfl ?_
        refine Ops.y rfl rfl rfl (at_ _) (Y.pick (.bool _) rfl rfl) ?_
        refine Ops.done rfl ?_
        refine W.condT rfl rfl ?_
        refine W.seq rfl ?_
        refine W.region rfl ?_
        refine Ops.y rfl rfl rfl (at_ _) (Y.assignB rfl) ?_
        refine Ops.done rfl ?_
        refine W.ret rfl ?_
        refine ⟨_, Rslt.one Try.results22 rfl, ?_⟩
        refine ⟨_, rfl, ?_, rfl⟩
        rw [decide_eq_decide.2 hp.symm]
        first | exact (decide_eq_true (fun x hx => by obtain ⟨j, hj, rfl⟩ := List.mem_iff_getElem.1 hx; have := hall j (by omega); simpa [hj] using this)).symm | exact (decide_eq_false (fun h => by have := h _ hm; omega)).symm

set_option maxHeartbeats 4000000 in
theorem table_b (v : Value) (l : List (Int × Int)) (w0 w : World) (F0 : List Nat) (L G : List Res) (hst : St w0 F0 w L G) (hr : Rds L G v l.length (lcs l)) (hl : l.length ≤ 9223372036854775807) (hwf : ∀ x ∈ l, In64 x.1 ∧ In64 x.2) :
    Calls Try.prog 13 #[v] w fun e w' => ∃ b, e = .returned (.bool b) ∧ b = decide (TabOk l) ∧ St w0 F0 w' L G := by
  obtain ⟨A, cap, rfl, hcap, -⟩ := hr.sl hst
  refine W.func Try.func13 rfl Try.ntmps13 rfl ?_
  refine W.seq rfl ?_
  refine W.region rfl ?_
  refine Ops.y rfl rfl rfl hst.ctx (Y.assignB rfl) ?_
  refine Ops.done rfl ?_
  refine W.seq rfl ?_
  refine W.region rfl ?_
  refine Ops.y rfl rfl rfl hst.ctx (Y.assignI rfl) ?_
  refine Ops.done rfl ?_
  refine W.seq rfl ?_
  refine W.seq rfl ?_
  refine W.region rfl ?_
  refine Ops.y rfl rfl rfl hst.ctx (Y.moveS rfl) ?_
  refine Ops.y rfl rfl rfl hst.ctx (Y.lenS Try.underlying26 rfl) ?_
  refine Ops.y rfl rfl rfl hst.ctx (Y.moveI rfl) ?_
  refine Ops.done rfl ?_
  refine W.block rfl ?_
  refine W.loop (γ := Nat) [(0, .slice _ _ _), (6, .slice _ _ _), (7, .int _ _)] (fun k => [(3, .int .i64 (po l k)), (8, .int .i64 (k : Int))]) (fun k w => k ≤ l.length ∧ k ≤ 32 ∧ (∀ j, j < k → okAt l j) ∧ St w0 F0 w L G) (fun k => l.length - k) (0) rfl ⟨rfl, rfl, rfl, trivial⟩ ?_ ?_ ?_
  · exact ⟨rfl, rfl, trivial⟩
  · exact ⟨by omega, by omega, fun j hj => by omega, hst⟩
  · clear hst; rintro k j w1 ⟨hk, hk32, hall, hst⟩
    have hpo := po_range hall
    refine W.seq rfl ?_
    refine W.region rfl ?_
    refine Ops.yb rfl rfl rfl hst.ctx (Y.lss rfl rfl) (fun b9 hb9 => ?_)
    refine Ops.done rfl ?_
    refine W.seq rfl ?_
    cases b9
    · replace hb9 := of_decide_eq_false hb9.symm
      refine W.condF rfl rfl ?_
      refine W.exit rfl ?_
      refine W.seq rfl ?_
      refine W.region rfl ?_
      refine Ops.y rfl rfl rfl hst.ctx (Y.assignB rfl) ?_
      refine Ops.done rfl ?_
      refine W.ret rfl ?_
      refine ⟨_, Rslt.one Try.results13 rfl, ?_⟩
      refine ⟨_, rfl, ?_, (by first | exact hst | exact hst.drop | exact hst.drop.drop | exact hst.drop.drop.drop | exact hst.drop.drop.drop.drop)⟩
      first | exact (tab_yes (by omega) (fun j hj => hall j (by omega))).symm | (refine (tab_no (k := k) (by omega) (fun h => ?_)).symm; unfold okAt at h; omega) | exact (tab_long (by omega)).symm
    · replace hb9 := of_decide_eq_true hb9.symm
      refine W.condT rfl rfl ?_
      refine W.skip rfl ?_
      refine W.seq rfl ?_
      refine W.block rfl ?_
      refine W.seq rfl ?_
      refine W.region rfl ?_
      refine Ops.y rfl rfl rfl hst.ctx (Y.moveI rfl) ?_
      have hk1 : k < l.length := by omega
      have hlp := hwf _ (lp_mem hk1)
      unfold In64 at hlp
      refine Ops.y rfl rfl rfl hst.ctx (Y.indexAddr Try.underlying26 Try.sizeOf45 rfl rfl ((hr.sl hst).ne (by rw [lcs_length]; omega)) (by omega)) ?_
      refine Ops.y rfl rfl rfl hst.ctx (Y.loadSlA Try.isAgg45 Try.sizeOf45 rfl hr (lcs_two hk1) rfl) ?_
      have hst0 := hst
      refine Ops.x rfl rfl rfl (X.allocA hst Try.zeroValue45 ?_)
      clear hst; intro p5 w5 hst
      refine Ops.y rfl rfl rfl hst.ctx (Y.assignI rfl) ?_
      refine Ops.x rfl rfl rfl (X.storeS hst 0 Try.sizeOf45 rfl rfl rfl rfl rfl (Nat.le_of_ble_eq_true rfl) rfl rfl ?_)
      clear hst; intro w4_5 hst
      try simp only [List.set_cons_zero, List.set_cons_succ, Nat.zero_add, Nat.reduceAdd, splice, List.take, List.drop, List.append_eq, List.nil_append, List.cons_append, List.length_cons, List.length_nil] at hst
      refine Ops.done rfl ?_
      refine W.seq rfl ?_
      refine W.seq rfl ?_
      refine W.drawn rfl (by kernel_rfl) (Ctx _ _ (_) (_)) [] (.op 0 0 (.op 1 0 (.op 2 0 (.op 3 0 (.op 4 0 (.op 5 1 (.op 6 1 (.op 7 0 (.op 8 0 (.op 9 0 (.op 10 0 (.op 11 0 (.op 12 1 (.op 13 1 (.op 14 0 (.op 15 0 (.op 16 0 (.op 17 0 (.op 18 0 (.op 19 0 (.op 20 0 (.op 21 0 (.op 22 0 (.op 23 0 (.op 24 0 (.op 25 0 (.op 26 0 (.op 27 0 (.op 28 0 (.op 29 0 (.op 30 0 (.op 31 0 (.op 32 0 (.op 33 0 (.op 34 0 (.op 35 0 (.op 36 0 (.op 37 0 (.op 38 0 (.op 39 0 (.op 40 0 (.op 41 0 (.op 42 0 (.op 43 0 (.op 44 0 (.op 45 0 .nil)))))))))))))))))))))))))))))))))))))))))))))) rfl (by kernel_rfl) hst.drew.ctx ?_
      replace hst := hst.drew
      generalize World.drew _ = wd at hst ⊢
      refine Drw.y rfl rfl rfl hst.ctx (Y.moveI rfl) ?_
      refine Drw.yb rfl rfl rfl hst.ctx (Y.geq rfl rfl) (fun b14 hb14 => ?_)
      refine Drw.y rfl rfl rfl hst.ctx (Y.moveB rfl) ?_
      cases b14
      · replace hb14 := of_decide_eq_false hb14.symm
        first
        | refine Drw.y rfl rfl rfl hst.ctx (Y.fieldAddr fa45_0 rfl) ?_
        | refine Drw.y rfl rfl rfl hst.ctx (Y.fieldAddrP fa45_0 rfl) ?_
        first
        | refine Drw.y rfl rfl rfl hst.ctx (Y.load 0 Try.isAgg3 rfl rfl rfl) ?_
        | refine Drw.y rfl rfl rfl hst.ctx (Y.loadSlF Try.isAgg3 rfl (hr.cons _) hp0) ?_
        refine Drw.x rfl rfl rfl (X.lits hst Try.underlying70 Try.sizeOf3 Try.zeroValue3 (by rfl) (by rfl) (by rfl) [.int _ _] (by rfl) (by rfl) ?_)
        clear hst; intro p18 w18 hst
        refine ⟨hst.ctx1, ?_⟩
        refine Drw.x rfl rfl rfl (X.call cf22 rfl ?_)
        refine use_call (in_b (0) (1099511627776) _ [(lp l k).1] _ ((0 ≤ (lp l k).1 ∧ (lp l k).1 ≤ 1099511627776)) ((Rds.ofCells 0 rfl 1 1).sl hst) (by simp) (by simp)) rfl ?_; rintro e w' ⟨b19, rfl, hb19, rfl⟩; refine ⟨_, rfl, ⟨hst.ctx1, ?_⟩⟩
        cases b19
        · replace hb19 := of_decide_eq_false hb19.symm
          refine Drw.y rfl rfl rfl hst.ctx1 (Y.not rfl) ?_
          refine Drw.y rfl rfl rfl hst.ctx1 (Y.pick (.bool _) rfl rfl) ?_
          refine Drw.y rfl rfl rfl hst.ctx1 (Y.moveB rfl) ?_
          refine Drw.no rfl rfl rfl hst.ctx1 ?_
          refine Drw.no rfl rfl rfl hst.ctx1 ?_
          refine Drw.noX rfl rfl rfl hst.ctx1 ?_
          refine Drw.noX rfl rfl rfl hst.ctx1 ?_
          refine Drw.no rfl rfl rfl hst.ctx1 ?_
          refine Drw.y rfl rfl rfl hst.ctx1 (Y.pick (.bool _) rfl rfl) ?_
          refine Drw.y rfl rfl rfl hst.ctx1 (Y.moveB rfl) ?_
          refine Drw.no rfl rfl rfl hst.ctx1 ?_
          refine Drw.no rfl rfl rfl hst.ctx1 ?_
          refine Drw.no rfl rfl rfl hst.ctx1 ?_
          refine Drw.no rfl rfl rfl hst.ctx1 ?_
          refine Drw.no rfl rfl rfl hst.ctx1 ?_
          refine Drw.no rfl rfl rfl hst.ctx1 ?_
          refine Drw.no rfl rfl rfl hst.ctx1 ?_
          refine Drw.no rfl rfl rfl hst.ctx1 ?_
          refine Drw.no rfl rfl rfl hst.ctx1 ?_
          refine Drw.no rfl rfl rfl hst.ctx1 ?_
          refine Drw.no rfl rfl rfl hst.ctx1 ?_
          refine Drw.no rfl rfl rfl hst.ctx1 ?_
          refine Drw.no rfl rfl rfl hst.ctx1 ?_
          refine Drw.no rfl rfl rfl hst.ctx1 ?_
          refine Drw.y rfl rfl rfl hst.ctx1 (Y.pick (.bool _) rfl rfl) ?_
          refine Drw.y rfl rfl rfl hst.ctx1 (Y.moveB rfl) ?_
          refine Drw.no rfl rfl rfl hst.ctx1 ?_
          refine Drw.no rfl rfl rfl hst.ctx1 ?_
          refine Drw.no rfl rfl rfl hst.ctx1 ?_
          refine Drw.no rfl rfl rfl hst.ctx1 ?_
          refine Drw.no rfl rfl rfl hst.ctx1 ?_
          refine Drw.no rfl rfl rfl hst.ctx1 ?_
          refine Drw.no rfl rfl rfl hst.ctx1 ?_
          refine Drw.no rfl rfl rfl hst.ctx1 ?_
          refine Drw.no rfl rfl rfl hst.ctx1 ?_
          refine Drw.no rfl rfl rfl hst.ctx1 ?_
          refine Drw.no rfl rfl rfl hst.ctx1 ?_
          refine Drw.no rfl rfl rfl hst.ctx1 ?_
          refine Drw.y rfl rfl rfl hst.ctx1 (Y.pick (.bool _) rfl rfl) ?_
          refine Drw.done ?_
          refine W.condT rfl rfl ?_
          refine W.seq rfl ?_
          refine W.region rfl ?_
          refine Ops.y rfl rfl rfl hst.ctx (Y.assignB rfl) ?_
          refine Ops.done rfl ?_
          refine W.ret rfl ?_
          refine ⟨_, Rslt.one Try.results13 rfl, ?_⟩
          refine ⟨_, rfl, ?_, (by first | exact hst | exact hst.drop | exact hst.drop.drop | exact hst.drop.drop.drop | exact hst.drop.drop.drop.drop)⟩
          first | exact (tab_yes (by omega) (fun j hj => hall j (by omega))).symm | (refine (tab_no (k := k) (by omega) (fun h => ?_)).symm; unfold okAt at h; omega) | exact (tab_long (by omega)).symm
        · replace hb19 := of_decide_eq_true hb19.symm
          refine Drw.y rfl rfl rfl hst.ctx1 (Y.not rfl) ?_
          refine Drw.y rfl rfl rfl hst.ctx1 (Y.pick (.bool _) rfl rfl) ?_
          refine Drw.y rfl rfl rfl hst.ctx1 (Y.moveB rfl) ?_
          first
          | refine Drw.y rfl rfl rfl hst.ctx1 (Y.fieldAddr fa45_1 rfl) ?_
          | refine Drw.y rfl rfl rfl hst.ctx1 (Y.fieldAddrP fa45_1 rfl) ?_
          first
          | refine Drw.y rfl rfl rfl hst.ctx1 (Y.load 0 Try.isAgg3 rfl rfl rfl) ?_
          | refine Drw.y rfl rfl rfl hst.ctx1 (Y.load 1 Try.isAgg3 rfl rfl rfl) ?_
          | refine Drw.y rfl rfl rfl hst.ctx1 (Y.loadSlF Try.isAgg3 rfl (hr.cons _) hp0) ?_
          refine Drw.x rfl rfl rfl (X.lits hst Try.underlying70 Try.sizeOf3 Try.zeroValue3 (by rfl) (by rfl) (by rfl) [.int _ _] (by rfl) (by rfl) ?_)
          clear hst; intro p25 w25 hst
          refine ⟨hst.ctx2, ?_⟩
          refine Drw.x rfl rfl rfl (X.call cf22 rfl ?_)
          refine use_call (in_b (-32) (32) _ [(lp l k).2] _ ((-32 ≤ (lp l k).2 ∧ (lp l k).2 ≤ 32)) ((Rds.ofCells 0 rfl 1 1).sl hst) (by simp) (by simp)) rfl ?_; rintro e w' ⟨b26, rfl, hb26, rfl⟩; refine ⟨_, rfl, ⟨hst.ctx2, ?_⟩⟩
          cases b26
          · replace hb26 := of_decide_eq_false hb26.symm
            refine Drw.y rfl rfl rfl hst.ctx2 (Y.not rfl) ?_
            refine Drw.y rfl rfl rfl hst.ctx2 (Y.pick (.bool _) rfl rfl) ?_
            refine Drw.y rfl rfl rfl hst.ctx2 (Y.moveB rfl) ?_
            refine Drw.no rfl rfl rfl hst.ctx2 ?_
            refine Drw.no rfl rfl rfl hst.ctx2 ?_
            refine Drw.no rfl rfl rfl hst.ctx2 ?_
            refine Drw.no rfl rfl rfl hst.ctx2 ?_
            refine Drw.no rfl rfl rfl hst.ctx2 ?_
            refine Drw.no rfl rfl rfl hst.ctx2 ?_
            refine Drw.no rfl rfl rfl hst.ctx2 ?_
            refine Drw.no rfl rfl rfl hst.ctx2 ?_
            refine Drw.no rfl rfl rfl hst.ctx2 ?_
            refine Drw.no rfl rfl rfl hst.ctx2 ?_
            refine Drw.no rfl rfl rfl hst.ctx2 ?_
            refine Drw.no rfl rfl rfl hst.ctx2 ?_
            refine Drw.no rfl rfl rfl hst.ctx2 ?_
            refine Drw.no rfl rfl rfl hst.ctx2 ?_
            refine Drw.y rfl rfl rfl hst.ctx2 (Y.pick (.bool _) rfl rfl) ?_
            refine Drw.y rfl rfl rfl hst.ctx2 (Y.moveB rfl) ?_
            refine Drw.no rfl rfl rfl hst.ctx2 ?_
            refine Drw.no rfl rfl rfl hst.ctx2 ?_
            refine Drw.no rfl rfl rfl hst.ctx2 ?_
            refine Drw.no rfl rfl rfl hst.ctx2 ?_
            refine Drw.no rfl rfl rfl hst.ctx2 ?_
            refine Drw.no rfl rfl rfl hst.ctx2 ?_
            refine Drw.no rfl rfl rfl hst.ctx2 ?_
            refine Drw.no rfl rfl rfl hst.ctx2 ?_
            refine Drw.no rfl rfl rfl hst.ctx2 ?_
            refine Drw.no rfl rfl rfl hst.ctx2 ?_
            refine Drw.no rfl rfl rfl hst.ctx2 ?_
            refine Drw.no rfl rfl rfl hst.ctx2 ?_
            refine Drw.y rfl rfl rfl hst.ctx2 (Y.pick (.bool _) rfl rfl) ?_
            refine Drw.done ?_
            refine W.condT rfl rfl ?_
            refine W.seq rfl ?_
            refine W.region rfl ?_
            refine Ops.y rfl rfl rfl hst.ctx (Y.assignB rfl) ?_
            refine Ops.done rfl ?_
            refine W.ret rfl ?_
            refine ⟨_, Rslt.one Try.results13 rfl, ?_⟩
            refine ⟨_, rfl, ?_, (by first | exact hst | exact hst.drop | exact hst.drop.drop | exact hst.drop.drop.drop | exact hst.drop.drop.drop.drop)⟩
            first | exact (tab_yes (by omega) (fun j hj => hall j (by omega))).symm | (refine (tab_no (k := k) (by omega) (fun h => ?_)).symm; unfold okAt at h; omega) | exact (tab_long (by omega)).symm
          · replace hb26 := of_decide_eq_true hb26.symm
            refine Drw.y rfl rfl rfl hst.ctx2 (Y.not rfl) ?_
            refine Drw.y rfl rfl rfl hst.ctx2 (Y.pick (.bool _) rfl rfl) ?_
            refine Drw.y rfl rfl rfl hst.ctx2 (Y.moveB rfl) ?_
            refine Drw.y rfl rfl rfl hst.ctx2 (Y.moveI rfl) ?_
            refine Drw.yb rfl rfl rfl hst.ctx2 (Y.gtr rfl rfl) (fun b31 hb31 => ?_)
            refine Drw.y rfl rfl rfl hst.ctx2 (Y.moveB rfl) ?_
            cases b31
            · replace hb31 := of_decide_eq_false hb31.symm
              refine Drw.no rfl rfl rfl hst.ctx2 ?_
              refine Drw.no rfl rfl rfl hst.ctx2 ?_
              refine Drw.no rfl rfl rfl hst.ctx2 ?_
              refine Drw.no rfl rfl rfl hst.ctx2 ?_
              refine Drw.no rfl rfl rfl hst.ctx2 ?_
              refine Drw.no rfl rfl rfl hst.ctx2 ?_
              refine Drw.no rfl rfl rfl hst.ctx2 ?_
              refine Drw.no rfl rfl rfl hst.ctx2 ?_
              refine Drw.no rfl rfl rfl hst.ctx2 ?_
              refine Drw.no rfl rfl rfl hst.ctx2 ?_
              refine Drw.y rfl rfl rfl hst.ctx2 (Y.pick (.bool _) rfl rfl) ?_
              refine Drw.y rfl rfl rfl hst.ctx2 (Y.pick (.bool _) rfl rfl) ?_
              refine Drw.y rfl rfl rfl hst.ctx2 (Y.moveB rfl) ?_
              first
              | refine Drw.y rfl rfl rfl hst.ctx2 (Y.fieldAddr fa45_1 rfl) ?_
              | refine Drw.y rfl rfl rfl hst.ctx2 (Y.fieldAddrP fa45_1 rfl) ?_
              first
              | refine Drw.y rfl rfl rfl hst.ctx2 (Y.load 0 Try.isAgg3 rfl rfl rfl) ?_
              | refine Drw.y rfl rfl rfl hst.ctx2 (Y.load 1 Try.isAgg3 rfl rfl rfl) ?_
              | refine Drw.y rfl rfl rfl hst.ctx2 (Y.load 2 Try.isAgg3 rfl rfl rfl) ?_
              | refine Drw.y rfl rfl rfl hst.ctx2 (Y.loadSlF Try.isAgg3 rfl (hr.cons _) hp0) ?_
              refine Drw.y rfl rfl rfl hst.ctx2 (Y.moveI rfl) ?_
              refine Drw.y rfl rfl rfl hst.ctx2 (Y.subI rfl rfl (by omega)) ?_
              refine Drw.yb rfl rfl rfl hst.ctx2 (Y.neq rfl rfl) (fun b50 hb50 => ?_)
              refine Drw.y rfl rfl rfl hst.ctx2 (Y.moveB rfl) ?_
              cases b50
              · replace hb50 := of_decide_eq_false hb50.symm
                refine Drw.no rfl rfl rfl hst.ctx2 ?_
                refine Drw.no rfl rfl rfl hst.ctx2 ?_
                refine Drw.no rfl rfl rfl hst.ctx2 ?_
                refine Drw.no rfl rfl rfl hst.ctx2 ?_
                refine Drw.no rfl rfl rfl hst.ctx2 ?_
                refine Drw.y rfl rfl rfl hst.ctx2 (Y.pick (.bool _) rfl rfl) ?_
                refine Drw.y rfl rfl rfl hst.ctx2 (Y.pick (.bool _) rfl rfl) ?_
                refine Drw.done ?_
                refine W.condF rfl rfl ?_
                refine W.skip rfl ?_
                refine W.region rfl ?_
                first
                | refine Ops.y rfl rfl rfl hst.ctx (Y.fieldAddr fa45_1 rfl) ?_
                | refine Ops.y rfl rfl rfl hst.ctx (Y.fieldAddrP fa45_1 rfl) ?_
                first
                | refine Ops.y rfl rfl rfl hst.ctx (Y.load 0 Try.isAgg3 rfl rfl rfl) ?_
                | refine Ops.y rfl rfl rfl hst.ctx (Y.load 1 Try.isAgg3 rfl rfl rfl) ?_
                | refine Ops.y rfl rfl rfl hst.ctx (Y.load 2 Try.isAgg3 rfl rfl rfl) ?_
                | refine Ops.y rfl rfl rfl hst.ctx (Y.loadSlF Try.isAgg3 rfl (hr.cons _) hp0) ?_
                refine Ops.y rfl rfl rfl hst.ctx (Y.assignI rfl) ?_
                refine Ops.done rfl ?_
                refine W.region rfl ?_
                refine Ops.y rfl rfl rfl hst.ctx (Y.addI rfl rfl (by omega)) ?_
                refine Ops.y rfl rfl rfl hst.ctx (Y.moveI rfl) ?_
                refine Ops.done rfl ?_
                exact ⟨k + 1, ⟨congrArg (Value.int .i64) (po_succ l k).symm, rfl, trivial⟩, ⟨rfl, rfl, rfl, trivial⟩, ⟨by omega, by omega, fun j hj => by rcases Nat.lt_succ_iff_lt_or_eq.1 hj with h | h; exact hall j h; subst h; unfold okAt; omega, (by first | exact hst | exact hst.drop | exact hst.drop.drop | exact hst.drop.drop.drop | exact hst.drop.drop.drop.drop)⟩, by omega⟩
              · replace hb50 := of_decide_eq_true hb50.symm
                first
                | refine Drw.y rfl rfl rfl hst.ctx2 (Y.fieldAddr fa45_1 rfl) ?_
                | refine Drw.y rfl rfl rfl hst.ctx2 (Y.fieldAddrP fa45_1 rfl) ?_
                first
                | refine Drw.y rfl rfl rfl hst.ctx2 (Y.load 0 Try.isAgg3 rfl rfl rfl) ?_
                | refine Drw.y rfl rfl rfl hst.ctx2 (Y.load 1 Try.isAgg3 rfl rfl rfl) ?_
                | refine Drw.y rfl rfl rfl hst.ctx2 (Y.load 2 Try.isAgg3 rfl rfl rfl) ?_
                | refine Drw.y rfl rfl rfl hst.ctx2 (Y.loadSlF Try.isAgg3 rfl (hr.cons _) hp0) ?_
                refine Drw.y rfl rfl rfl hst.ctx2 (Y.moveI rfl) ?_
                refine Drw.y rfl rfl rfl hst.ctx2 (Y.subI rfl rfl (by omega)) ?_
                refine Drw.yb rfl rfl rfl hst.ctx2 (Y.neq rfl rfl) (fun b56 hb56 => ?_)
                refine Drw.y rfl rfl rfl hst.ctx2 (Y.pick (.bool _) rfl rfl) ?_
                refine Drw.y rfl rfl rfl hst.ctx2 (Y.pick (.bool _) rfl rfl) ?_
                refine Drw.done ?_
                cases b56
                · replace hb56 := of_decide_eq_false hb56.symm
                  refine W.condF rfl rfl ?_
                  refine W.skip rfl ?_
                  refine W.region rfl ?_
                  first
                  | refine Ops.y rfl rfl rfl hst.ctx (Y.fieldAddr fa45_1 rfl) ?_
                  | refine Ops.y rfl rfl rfl hst.ctx (Y.fieldAddrP fa45_1 rfl) ?_
                  first
                  | refine Ops.y rfl rfl rfl hst.ctx (Y.load 0 Try.isAgg3 rfl rfl rfl) ?_
                  | refine Ops.y rfl rfl rfl hst.ctx (Y.load 1 Try.isAgg3 rfl rfl rfl) ?_
                  | refine Ops.y rfl rfl rfl hst.ctx (Y.load 2 Try.isAgg3 rfl rfl rfl) ?_
                  | refine Ops.y rfl rfl rfl hst.ctx (Y.loadSlF Try.isAgg3 rfl (hr.cons _) hp0) ?_
                  refine Ops.y rfl rfl rfl hst.ctx (Y.assignI rfl) ?_
                  refine Ops.done rfl ?_
                  refine W.region rfl ?_
                  refine Ops.y rfl rfl rfl hst.ctx (Y.addI rfl rfl (by omega)) ?_
                  refine Ops.y rfl rfl rfl hst.ctx (Y.moveI rfl) ?_
                  refine Ops.done rfl ?_
                  exact ⟨k + 1, ⟨congrArg (Value.int .i64) (po_succ l k).symm, rfl, trivial⟩, ⟨rfl, rfl, rfl, trivial⟩, ⟨by omega, by omega, fun j hj => by rcases Nat.lt_succ_iff_lt_or_eq.1 hj with h | h; exact hall j h; subst h; unfold okAt; omega, (by first | exact hst | exact hst.drop | exact hst.drop.drop | exact hst.drop.drop.drop | exact hst.drop.drop.drop.drop)⟩, by omega⟩
                · replace hb56 := of_decide_eq_true hb56.symm
                  refine W.condT rfl rfl ?_
                  refine W.seq rfl ?_
                  refine W.region rfl ?_
                  refine Ops.y rfl rfl rfl hst.ctx (Y.assignB rfl) ?_
                  refine Ops.done rfl ?_
                  refine W.ret rfl ?_
                  refine ⟨_, Rslt.one Try.results13 rfl, ?_⟩
                  refine ⟨_, rfl, ?_, (by first | exact hst | exact hst.drop | exact hst.drop.drop | exact hst.drop.drop.drop | exact hst.drop.drop.drop.drop)⟩
                  first | exact (tab_yes (by omega) (fun j hj => hall j (by omega))).symm | (refine (tab_no (k := k) (by omega) (fun h => ?_)).symm; unfold okAt at h; omega) | exact (tab_long (by omega)).symm
            · replace hb31 := of_decide_eq_true hb31.symm
              first
              | refine Drw.y rfl rfl rfl hst.ctx2 (Y.fieldAddr fa45_0 rfl) ?_
              | refine Drw.y rfl rfl rfl hst.ctx2 (Y.fieldAddrP fa45_0 rfl) ?_
              first
              | refine Drw.y rfl rfl rfl hst.ctx2 (Y.load 0 Try.isAgg3 rfl rfl rfl) ?_
              | refine Drw.y rfl rfl rfl hst.ctx2 (Y.load 1 Try.isAgg3 rfl rfl rfl) ?_
              | refine Drw.y rfl rfl rfl hst.ctx2 (Y.load 2 Try.isAgg3 rfl rfl rfl) ?_
              | refine Drw.y rfl rfl rfl hst.ctx2 (Y.loadSlF Try.isAgg3 rfl (hr.cons _) hp0) ?_
              refine Drw.y rfl rfl rfl hst.ctx2 (Y.moveS rfl) ?_
              refine Drw.y rfl rfl rfl hst.ctx2 (Y.moveI rfl) ?_
              refine Drw.y rfl rfl rfl hst.ctx2 (Y.subI rfl rfl (by omega)) ?_
              have hp0 : (lcs l)[((k : Int) - 1).toNat * 2 + 0]? = some (i64 (lp l (k - 1)).1) := by have h := (lcs_get l (k - 1) (by omega)).1; rw [show ((k : Int) - 1).toNat = k - 1 by omega]; exact h
              have hpm := hwf _ (lp_mem (show k - 1 < l.length by omega))
              unfold In64 at hpm
              have hpk := hall (k - 1) (by omega)
              unfold okAt at hpk
              refine Drw.y rfl rfl rfl hst.ctx2 (Y.indexAddr Try.underlying26 Try.sizeOf45 rfl rfl ((hr.sl hst0).ne (by rw [lcs_length]; omega)) (by omega)) ?_
              first
              | refine Drw.y rfl rfl rfl hst.ctx2 (Y.fieldAddr fa45_0 rfl) ?_
              | refine Drw.y rfl rfl rfl hst.ctx2 (Y.fieldAddrP fa45_0 rfl) ?_
              first
              | refine Drw.y rfl rfl rfl hst.ctx2 (Y.load 0 Try.isAgg3 rfl rfl rfl) ?_
              | refine Drw.y rfl rfl rfl hst.ctx2 (Y.load 1 Try.isAgg3 rfl rfl rfl) ?_
              | refine Drw.y rfl rfl rfl hst.ctx2 (Y.load 2 Try.isAgg3 rfl rfl rfl) ?_
              | refine Drw.y rfl rfl rfl hst.ctx2 (Y.loadSlF Try.isAgg3 rfl (hr.cons _) hp0) ?_
              refine Drw.y rfl rfl rfl hst.ctx2 (Y.subI rfl rfl (by omega)) ?_
              refine Drw.yb rfl rfl rfl hst.ctx2 (Y.lss rfl rfl) (fun b42 hb42 => ?_)
              refine Drw.y rfl rfl rfl hst.ctx2 (Y.pick (.bool _) rfl rfl) ?_
              refine Drw.y rfl rfl rfl hst.ctx2 (Y.pick (.bool _) rfl rfl) ?_
              refine Drw.y rfl rfl rfl hst.ctx2 (Y.moveB rfl) ?_
              cases b42
              · replace hb42 := of_decide_eq_false hb42.symm
                first
                | refine Drw.y rfl rfl rfl hst.ctx2 (Y.fieldAddr fa45_1 rfl) ?_
                | refine Drw.y rfl rfl rfl hst.ctx2 (Y.fieldAddrP fa45_1 rfl) ?_
                first
                | refine Drw.y rfl rfl rfl hst.ctx2 (Y.load 0 Try.isAgg3 rfl rfl rfl) ?_
                | refine Drw.y rfl rfl rfl hst.ctx2 (Y.load 1 Try.isAgg3 rfl rfl rfl) ?_
                | refine Drw.y rfl rfl rfl hst.ctx2 (Y.load 2 Try.isAgg3 rfl rfl rfl) ?_
                | refine Drw.y rfl rfl rfl hst.ctx2 (Y.loadSlF Try.isAgg3 rfl (hr.cons _) hp0) ?_
                refine Drw.y rfl rfl rfl hst.ctx2 (Y.moveI rfl) ?_
                refine Drw.y rfl rfl rfl hst.ctx2 (Y.subI rfl rfl (by omega)) ?_
                refine Drw.yb rfl rfl rfl hst.ctx2 (Y.neq rfl rfl) (fun b50 hb50 => ?_)
                refine Drw.y rfl rfl rfl hst.ctx2 (Y.moveB rfl) ?_
                cases b50
                · replace hb50 := of_decide_eq_false hb50.symm
                  refine Drw.no rfl rfl rfl hst.ctx2 ?_
                  refine Drw.no rfl rfl rfl hst.ctx2 ?_
                  refine Drw.no rfl rfl rfl hst.ctx2 ?_
                  refine Drw.no rfl rfl rfl hst.ctx2 ?_
                  refine Drw.no rfl rfl rfl hst.ctx2 ?_
                  refine Drw.y rfl rfl rfl hst.ctx2 (Y.pick (.bool _) rfl rfl) ?_
                  refine Drw.y rfl rfl rfl hst.ctx2 (Y.pick (.bool _) rfl rfl) ?_
                  refine Drw.done ?_
                  refine W.condF rfl rfl ?_
                  refine W.skip rfl ?_
                  refine W.region rfl ?_
                  first
                  | refine Ops.y rfl rfl rfl hst.ctx (Y.fieldAddr fa45_1 rfl) ?_
                  | refine Ops.y rfl rfl rfl hst.ctx (Y.fieldAddrP fa45_1 rfl) ?_
                  first
                  | refine Ops.y rfl rfl rfl hst.ctx (Y.load 0 Try.isAgg3 rfl rfl rfl) ?_
                  | refine Ops.y rfl rfl rfl hst.ctx (Y.load 1 Try.isAgg3 rfl rfl rfl) ?_
                  | refine Ops.y rfl rfl rfl hst.ctx (Y.load 2 Try.isAgg3 rfl rfl rfl) ?_
                  | refine Ops.y rfl rfl rfl hst.ctx (Y.loadSlF Try.isAgg3 rfl (hr.cons _) hp0) ?_
                  refine Ops.y rfl rfl rfl hst.ctx (Y.assignI rfl) ?_
                  refine Ops.done rfl ?_
                  refine W.region rfl ?_
                  refine Ops.y rfl rfl rfl hst.ctx (Y.addI rfl rfl (by omega)) ?_
                  refine Ops.y rfl rfl rfl hst.ctx (Y.moveI rfl) ?_
                  refine Ops.done rfl ?_
                  exact ⟨k + 1, ⟨congrArg (Value.int .i64) (po_succ l k).symm, rfl, trivial⟩, ⟨rfl, rfl, rfl, trivial⟩, ⟨by omega, by omega, fun j hj => by rcases Nat.lt_succ_iff_lt_or_eq.1 hj with h | h; exact hall j h; subst h; unfold okAt; omega, (by first | exact hst | exact hst.drop | exact hst.drop.drop | exact hst.drop.drop.drop | exact hst.drop.drop.drop.drop)⟩, by omega⟩
                · replace hb50 := of_decide_eq_true hb50.symm
                  first
                  | refine Drw.y rfl rfl rfl hst.ctx2 (Y.fieldAddr fa45_1 rfl) ?_
                  | refine Drw.y rfl rfl rfl hst.ctx2 (Y.fieldAddrP fa45_1 rfl) ?_
                  first
                  | refine Drw.y rfl rfl rfl hst.ctx2 (Y.load 0 Try.isAgg3 rfl rfl rfl) ?_
                  | refine Drw.y rfl rfl rfl hst.ctx2 (Y.load 1 Try.isAgg3 rfl rfl rfl) ?_
                  | refine Drw.y rfl rfl rfl hst.ctx2 (Y.load 2 Try.isAgg3 rfl rfl rfl) ?_
                  | refine Drw.y rfl rfl rfl hst.ctx2 (Y.loadSlF Try.isAgg3 rfl (hr.cons _) hp0) ?_
                  refine Drw.y rfl rfl rfl hst.ctx2 (Y.moveI rfl) ?_
                  refine Drw.y rfl rfl rfl hst.ctx2 (Y.subI rfl rfl (by omega)) ?_
                  refine Drw.yb rfl rfl rfl hst.ctx2 (Y.neq rfl rfl) (fun b56 hb56 => ?_)
                  refine Drw.y rfl rfl rfl hst.ctx2 (Y.pick (.bool _) rfl rfl) ?_
                  refine Drw.y rfl rfl rfl hst.ctx2 (Y.pick (.bool _) rfl rfl) ?_
                  refine Drw.done ?_
                  cases b56
                  · replace hb56 := of_decide_eq_false hb56.symm
                    refine W.condF rfl rfl ?_
                    refine W.skip rfl ?_
                    refine W.region rfl ?_
                    first
                    | refine Ops.y rfl rfl rfl hst.ctx (Y.fieldAddr fa45_1 rfl) ?_
                    | refine Ops.y rfl rfl rfl hst.ctx (Y.fieldAddrP fa45_1 rfl) ?_
                    first
                    | refine Ops.y rfl rfl rfl hst.ctx (Y.load 0 Try.isAgg3 rfl rfl rfl) ?_
                    | refine Ops.y rfl rfl rfl hst.ctx (Y.load 1 Try.isAgg3 rfl rfl rfl) ?_
                    | refine Ops.y rfl rfl rfl hst.ctx (Y.load 2 Try.isAgg3 rfl rfl rfl) ?_
                    | refine Ops.y rfl rfl rfl hst.ctx (Y.loadSlF Try.isAgg3 rfl (hr.cons _) hp0) ?_
                    refine Ops.y rfl rfl rfl hst.ctx (Y.assignI rfl) ?_
                    refine Ops.done rfl ?_
                    refine W.region rfl ?_
                    refine Ops.y rfl rfl rfl hst.ctx (Y.addI rfl rfl (by omega)) ?_
                    refine Ops.y rfl rfl rfl hst.ctx (Y.moveI rfl) ?_
                    refine Ops.done rfl ?_
                    exact ⟨k + 1, ⟨congrArg (Value.int .i64) (po_succ l k).symm, rfl, trivial⟩, ⟨rfl, rfl, rfl, trivial⟩, ⟨by omega, by omega, fun j hj => by rcases Nat.lt_succ_iff_lt_or_eq.1 hj with h | h; exact hall j h; subst h; unfold okAt; omega, (by first | exact hst | exact hst.drop | exact hst.drop.drop | exact hst.drop.drop.drop | exact hst.drop.drop.drop.drop)⟩, by omega⟩
                  · replace hb56 := of_decide_eq_true hb56.symm
                    refine W.condT rfl rfl ?_
                    refine W.seq rfl ?_
                    refine W.region rfl ?_
                    refine Ops.y rfl rfl rfl hst.ctx (Y.assignB rfl) ?_
                    refine Ops.done rfl ?_
                    refine W.ret rfl ?_
                    refine ⟨_, Rslt.one Try.results13 rfl, ?_⟩
                    refine ⟨_, rfl, ?_, (by first | exact hst | exact hst.drop | exact hst.drop.drop | exact hst.drop.drop.drop | exact hst.drop.drop.drop.drop)⟩
                    first | exact (tab_yes (by omega) (fun j hj => hall j (by omega))).symm | (refine (tab_no (k := k) (by omega) (fun h => ?_)).symm; unfold okAt at h; omega) | exact (tab_long (by omega)).symm
              · replace hb42 := of_decide_eq_true hb42.symm
                refine Drw.no rfl rfl rfl hst.ctx2 ?_
                refine Drw.no rfl rfl rfl hst.ctx2 ?_
                refine Drw.no rfl rfl rfl hst.ctx2 ?_
                refine Drw.no rfl rfl rfl hst.ctx2 ?_
                refine Drw.no rfl rfl rfl hst.ctx2 ?_
                refine Drw.no rfl rfl rfl hst.ctx2 ?_
                refine Drw.no rfl rfl rfl hst.ctx2 ?_
                refine Drw.no rfl rfl rfl hst.ctx2 ?_
                refine Drw.no rfl rfl rfl hst.ctx2 ?_
                refine Drw.no rfl rfl rfl hst.ctx2 ?_
                refine Drw.no rfl rfl rfl hst.ctx2 ?_
                refine Drw.no rfl rfl rfl hst.ctx2 ?_
                refine Drw.y rfl rfl rfl hst.ctx2 (Y.pick (.bool _) rfl rfl) ?_
                refine Drw.done ?_
                refine W.condT rfl rfl ?_
                refine W.seq rfl ?_
                refine W.region rfl ?_
                refine Ops.y rfl rfl rfl hst.ctx (Y.assignB rfl) ?_
                refine Ops.done rfl ?_
                refine W.ret rfl ?_
                refine ⟨_, Rslt.one Try.results13 rfl, ?_⟩
                refine ⟨_, rfl, ?_, (by first | exact hst | exact hst.drop | exact hst.drop.drop | exact hst.drop.drop.drop | exact hst.drop.drop.drop.drop)⟩
                first | exact (tab_yes (by omega) (fun j hj => hall j (by omega))).symm | (refine (tab_no (k := k) (by omega) (fun h => ?_)).symm; unfold okAt at h; omega) | exact (tab_long (by omega)).symm
      · replace hb14 := of_decide_eq_true hb14.symm
        refine Drw.no rfl rfl rfl hst.ctx ?_
        refine Drw.no rfl rfl rfl hst.ctx ?_
        refine Drw.noX rfl rfl rfl hst.ctx ?_
        refine Drw.noX rfl rfl rfl hst.ctx ?_
        refine Drw.no rfl rfl rfl hst.ctx ?_
        refine Drw.y rfl rfl rfl hst.ctx (Y.pick (.bool _) rfl rfl) ?_
        refine Drw.y rfl rfl rfl hst.ctx (Y.moveB rfl) ?_
        refine Drw.no rfl rfl rfl hst.ctx ?_
        refine Drw.no rfl rfl rfl hst.ctx ?_
        refine Drw.noX rfl rfl rfl hst.ctx ?_
        refine Drw.noX rfl rfl rfl hst.ctx ?_
        refine Drw.no rfl rfl rfl hst.ctx ?_
        refine Drw.y rfl rfl rfl hst.ctx (Y.pick (.bool _) rfl rfl) ?_
        refine Drw.y rfl rfl rfl hst.ctx (Y.moveB rfl) ?_
        refine Drw.no rfl rfl rfl hst.ctx ?_
        refine Drw.no rfl rfl rfl hst.ctx ?_
        refine Drw.no rfl rfl rfl hst.ctx ?_
        refine Drw.no rfl rfl rfl hst.ctx ?_
        refine Drw.no rfl rfl rfl hst.ctx ?_
        refine Drw.no rfl rfl rfl hst.ctx ?_
        refine Drw.no rfl rfl rfl hst.ctx ?_
        refine Drw.no rfl rfl rfl hst.ctx ?_
        refine Drw.no rfl rfl rfl hst.ctx ?_
        refine Drw.no rfl rfl rfl hst.ctx ?_
        refine Drw.no rfl rfl rfl hst.ctx ?_
        refine Drw.no rfl rfl rfl hst.ctx ?_
        refine Drw.no rfl rfl rfl hst.ctx ?_
        refine Drw.no rfl rfl rfl hst.ctx ?_
        refine Drw.y rfl rfl rfl hst.ctx (Y.pick (.bool _) rfl rfl) ?_
        refine Drw.y rfl rfl rfl hst.ctx (Y.moveB rfl) ?_
        refine Drw.no rfl rfl rfl hst.ctx ?_
        refine Drw.no rfl rfl rfl hst.ctx ?_
        refine Drw.no rfl rfl rfl hst.ctx ?_
        refine Drw.no rfl rfl rfl hst.ctx ?_
        refine Drw.no rfl rfl rfl hst.ctx ?_
        refine Drw.no rfl rfl rfl hst.ctx ?_
        refine Drw.no rfl rfl rfl hst.ctx ?_
        refine Drw.no rfl rfl rfl hst.ctx ?_
        refine Drw.no rfl rfl rfl hst.ctx ?_
        refine Drw.no rfl rfl rfl hst.ctx ?_
        refine Drw.no rfl rfl rfl hst.ctx ?_
        refine Drw.no rfl rfl rfl hst.ctx ?_
        refine Drw.y rfl rfl rfl hst.ctx (Y.pick (.bool _) rfl rfl) ?_
        refine Drw.done ?_
        refine W.condT rfl rfl ?_
        refine W.seq rfl ?_
        refine W.region rfl ?_
        refine Ops.y rfl rfl rfl hst.ctx (Y.assignB rfl) ?_
        refine Ops.done rfl ?_
        refine W.ret rfl ?_
        refine ⟨_, Rslt.one Try.results13 rfl, ?_⟩
        refine ⟨_, rfl, ?_, (by first | exact hst | exact hst.drop | exact hst.drop.drop | exact hst.drop.drop.drop | exact hst.drop.drop.drop.drop)⟩
        first | exact (tab_yes (by omega) (fun j hj => hall j (by omega))).symm | (refine (tab_no (k := k) (by omega) (fun h => ?_)).symm; unfold okAt at h; omega) | exact (tab_long (by omega)).symm
end Go.Proofs.Ytkbkgpedpaodlaa.W
