/- The walks of WireWrites and WireReads. -/
import Derived.Test.YtkbkgpedpaodlaaWV
set_option linter.unusedVariables false
set_option linter.unusedSimpArgs false
namespace Go.Proofs.Ytkbkgpedpaodlaa.W
open Go.RowKit Go.Proofs.Ytkbkgpedpaodlaa.K Go.Proofs.Ytkbkgpedpaodlaa.CM
theorem cf15 : ∀ args w, (callFunc 15 args).run Try.prog w = .ok (.enter 15 args) w := fun _ _ => by simp [go_sem]
theorem cf19 : ∀ args w, (callFunc 19 args).run Try.prog w = .ok (.enter 19 args) w := fun _ _ => by simp [go_sem]
theorem cf20 : ∀ args w, (callFunc 20 args).run Try.prog w = .ok (.enter 20 args) w := fun _ _ => by simp [go_sem]

set_option maxHeartbeats 1000000 in
theorem WireWrites_walk (m : M) (A : Option Addr) (cap : Nat) (w : World) (hs : Sl w (.slice A m.tab.length cap) m.tab.length (lcs m.tab)) (hin : m.In) :
    Calls Try.prog 4 #[.agg #[.int .i64 m.kind, .int .i64 m.from_, .int .i64 m.slo, .int .i64 m.shi, .int .i64 m.held, .int .i64 m.hops, .bool m.good, .bool m.ref, .int .i64 m.elo, .int .i64 m.ehi, .int .i64 m.pulse, .int .i64 m.time, .int .i64 m.num, .slice A m.tab.length cap]] w fun e w' => e = .returned (.bool true) ∧ Below w.heap.size w w' := by
  have hst := (St.start w).arg hs
  have hr : Rds [] [slR (.slice A m.tab.length cap) m.tab.length (lcs m.tab)] (.slice A m.tab.length cap) m.tab.length (lcs m.tab) := Rds.slG 0 rfl
  refine W.func Try.func4 rfl Try.ntmps4 rfl ?_
  refine W.seq rfl ?_
  refine W.region rfl ?_
  refine Ops.x rfl rfl rfl (X.boxA hst rfl ?_)
  clear hst; intro p1 w1 hst
  refine Ops.y rfl rfl rfl hst.ctx (Y.assignB rfl) ?_
  refine Ops.done rfl ?_
  refine W.seq rfl ?_
  refine W.seq rfl ?_
  refine W.region rfl ?_
  refine Ops.x rfl rfl rfl (X.call cf15 rfl ?_)
  refine use_call (alive_any _ _ _ _ _ hst) rfl ?_; clear hst; rintro e w1 ⟨rfl, hst⟩; refine ⟨_, rfl, ?_⟩
  refine Ops.y rfl rfl rfl hst.ctx (Y.not rfl) ?_
  refine Ops.done rfl ?_
  refine W.condF rfl rfl ?_
  refine W.skip rfl ?_
  refine W.seq rfl ?_
  refine W.seq rfl ?_
  refine W.region rfl ?_
  refine Ops.y rfl rfl rfl hst.ctx (Y.loadA 0 Try.isAgg28 Try.sizeOf28 rfl rfl rfl rfl) ?_
  refine Ops.x rfl rfl rfl (X.call cf11 rfl ?_)
  refine use_call (long_b m.kind m.from_ m.slo m.shi m.held m.hops m.good m.ref m.elo m.ehi m.pulse m.time m.num m.tab _ _ _ _ _ _ _ hst) rfl ?_; clear hst; rintro e w1 ⟨b10, rfl, hb10, hst⟩; refine ⟨_, rfl, ?_⟩
  refine Ops.done rfl ?_
  cases b10
  · replace hb10 := of_decide_eq_false hb10.symm
    refine W.condF rfl rfl ?_
    refine W.skip rfl ?_
    refine W.seq rfl ?_
    refine W.region rfl ?_
    refine Ops.y rfl rfl rfl hst.ctx (Y.loadA 0 Try.isAgg28 Try.sizeOf28 rfl rfl rfl rfl) ?_
    refine Ops.x rfl rfl rfl (X.call cf16 rfl ?_)
    refine use_call (Enc_any m _ _ _ _ _ _ _ hst (hr.cons _) hin) rfl ?_; clear hst; rintro e w1 ⟨rfl, hst⟩; refine ⟨_, rfl, ?_⟩
    refine Ops.y rfl rfl rfl hst.ctx (Y.moveU rfl) ?_
    refine Ops.y rfl rfl rfl hst.ctx (Y.extract rfl rfl) ?_
    refine Ops.y rfl rfl rfl hst.ctx (Y.extract rfl rfl) ?_
    refine Ops.y rfl rfl rfl hst.ctx (Y.assignT rfl) ?_
    refine Ops.y rfl rfl rfl hst.ctx (Y.assignI rfl) ?_
    refine Ops.done rfl ?_
    refine W.seq rfl ?_
    refine W.region rfl ?_
    refine Ops.y rfl rfl rfl hst.ctx (Y.loadA 0 Try.isAgg28 Try.sizeOf28 rfl rfl rfl rfl) ?_
    refine Ops.x rfl rfl rfl (X.call cf17 rfl ?_)
    refine use_call (rEnc_any m _ _ _ _ _ _ _ hst (hr.cons _) hin) rfl ?_; clear hst; rintro e w1 ⟨rfl, hst⟩; refine ⟨_, rfl, ?_⟩
    refine Ops.y rfl rfl rfl hst.ctx (Y.moveU rfl) ?_
    refine Ops.y rfl rfl rfl hst.ctx (Y.extract rfl rfl) ?_
    refine Ops.y rfl rfl rfl hst.ctx (Y.extract rfl rfl) ?_
    refine Ops.y rfl rfl rfl hst.ctx (Y.assignT rfl) ?_
    refine Ops.y rfl rfl rfl hst.ctx (Y.assignI rfl) ?_
    refine Ops.done rfl ?_
    refine W.seq rfl ?_
    refine W.region rfl ?_
    refine Ops.y rfl rfl rfl hst.ctx (Y.moveT rfl) ?_
    refine Ops.y rfl rfl rfl hst.ctx (Y.moveT rfl) ?_
    refine Ops.yb rfl rfl rfl hst.ctx (Y.eqT rfl rfl) (fun b23 hb23 => ?_)
    refine Ops.y rfl rfl rfl hst.ctx (Y.moveB rfl) ?_
    cases b23
    · replace hb23 := of_decide_eq_false hb23.symm
      exact absurd rfl hb23
    · replace hb23 := of_decide_eq_true hb23.symm
      refine Ops.y rfl rfl rfl hst.ctx (Y.moveI rfl) ?_
      refine Ops.y rfl rfl rfl hst.ctx (Y.moveI rfl) ?_
      refine Ops.yb rfl rfl rfl hst.ctx (Y.eql rfl rfl) (fun b27 hb27 => ?_)
      refine Ops.y rfl rfl rfl hst.ctx (Y.pick (.bool _) rfl rfl) ?_
      refine Ops.y rfl rfl rfl hst.ctx (Y.assignB rfl) ?_
      refine Ops.done rfl ?_
      refine W.ret rfl ?_
      cases b27
      · replace hb27 := of_decide_eq_false hb27.symm
        exact absurd rfl hb27
      · replace hb27 := of_decide_eq_true hb27.symm
        refine ⟨_, Rslt.one Try.results4 rfl, ?_⟩
        exact ⟨rfl, hst.drop.below⟩
  · replace hb10 := of_decide_eq_true hb10.symm
    refine W.condT rfl rfl ?_
    refine W.seq rfl ?_
    refine W.region rfl ?_
    refine Ops.y rfl rfl rfl hst.ctx (Y.assignB rfl) ?_
    refine Ops.done rfl ?_
    refine W.ret rfl ?_
    refine ⟨_, Rslt.one Try.results4 rfl, ?_⟩
    exact ⟨rfl, hst.drop.below⟩

set_option maxHeartbeats 1000000 in
theorem WireReads_walk (s : ByteArray) (w : World) :
    Calls Try.prog 5 #[.string s] w fun e w' => e = .returned (.bool true) ∧ Below w.heap.size w w' := by
  have hst := St.start w
  obtain ⟨l, rfl⟩ : ∃ l, s = str l := ⟨sb s, (str_sb s).symm⟩
  obtain ⟨⟨x, er⟩, hx⟩ : ∃ r, decR l = r := ⟨_, rfl⟩
  have hxin := decR_in hx
  have hsz := str_sz l
  refine W.func Try.func5 rfl Try.ntmps5 rfl ?_
  refine W.seq rfl ?_
  refine W.region rfl ?_
  refine Ops.y rfl rfl rfl hst.ctx (Y.assignB rfl) ?_
  refine Ops.done rfl ?_
  refine W.seq rfl ?_
  refine W.seq rfl ?_
  refine W.region rfl ?_
  refine Ops.x rfl rfl rfl (X.call cf15 rfl ?_)
  refine use_call (alive_any _ _ _ _ _ hst) rfl ?_; clear hst; rintro e w1 ⟨rfl, hst⟩; refine ⟨_, rfl, ?_⟩
  refine Ops.y rfl rfl rfl hst.ctx (Y.not rfl) ?_
  refine Ops.done rfl ?_
  refine W.condF rfl rfl ?_
  refine W.skip rfl ?_
  refine W.seq rfl ?_
  refine W.seq rfl ?_
  refine W.region rfl ?_
  refine Ops.y rfl rfl rfl hst.ctx (Y.moveT rfl) ?_
  refine Ops.y rfl rfl rfl hst.ctx (Y.lenT Try.underlying9 rfl) ?_
  refine Ops.yb rfl rfl rfl hst.ctx (Y.gtr rfl rfl) (fun b11 hb11 => ?_)
  refine Ops.done rfl ?_
  cases b11
  · replace hb11 := of_decide_eq_false hb11.symm
    refine W.condF rfl rfl ?_
    refine W.skip rfl ?_
    refine W.seq rfl ?_
    refine W.region rfl ?_
    refine Ops.y rfl rfl rfl hst.ctx (Y.moveT rfl) ?_
    refine Ops.x rfl rfl rfl (X.call cf18 rfl ?_)
    refine use_call (Dec_any l x er hx _ _ _ _ _ hst (by omega)) rfl ?_; clear hst; rintro e w2 ⟨A14, c14, rfl, hst⟩; refine ⟨_, rfl, ?_⟩
    refine Ops.y rfl rfl rfl hst.ctx (Y.moveU rfl) ?_
    refine Ops.y rfl rfl rfl hst.ctx (Y.extract rfl rfl) ?_
    refine Ops.y rfl rfl rfl hst.ctx (Y.extract rfl rfl) ?_
    refine Ops.x rfl rfl rfl (X.allocA hst Try.zeroValue28 ?_)
    clear hst; intro p3 w3 hst
    first
    | refine Ops.x rfl rfl rfl (X.storeS hst 0 Try.sizeOf28 rfl rfl rfl rfl rfl (Nat.le_of_ble_eq_true rfl) rfl rfl ?_)
    | refine Ops.x rfl rfl rfl (X.storeS hst 1 Try.sizeOf28 rfl rfl rfl rfl rfl (Nat.le_of_ble_eq_true rfl) rfl rfl ?_)
    | refine Ops.x rfl rfl rfl (X.storeS hst 2 Try.sizeOf28 rfl rfl rfl rfl rfl (Nat.le_of_ble_eq_true rfl) rfl rfl ?_)
    clear hst; intro w5_6 hst
    try simp only [List.set_cons_zero, List.set_cons_succ, Nat.zero_add, Nat.reduceAdd, splice, List.take, List.drop, List.append_eq, List.nil_append, List.cons_append, List.length_cons, List.length_nil] at hst
    refine Ops.y rfl rfl rfl hst.ctx (Y.assignI rfl) ?_
    refine Ops.done rfl ?_
    refine W.seq rfl ?_
    refine W.region rfl ?_
    refine Ops.y rfl rfl rfl hst.ctx (Y.moveT rfl) ?_
    refine Ops.x rfl rfl rfl (X.call cf19 rfl ?_)
    refine use_call (rDec_any l x er hx _ _ _ _ _ hst (by omega)) rfl ?_; clear hst; rintro e w2 ⟨A19, c19, rfl, hst⟩; refine ⟨_, rfl, ?_⟩
    refine Ops.y rfl rfl rfl hst.ctx (Y.moveU rfl) ?_
    refine Ops.y rfl rfl rfl hst.ctx (Y.extract rfl rfl) ?_
    refine Ops.y rfl rfl rfl hst.ctx (Y.extract rfl rfl) ?_
    refine Ops.x rfl rfl rfl (X.allocA hst Try.zeroValue28 ?_)
    clear hst; intro p5 w5 hst
    first
    | refine Ops.x rfl rfl rfl (X.storeS hst 0 Try.sizeOf28 rfl rfl rfl rfl rfl (Nat.le_of_ble_eq_true rfl) rfl rfl ?_)
    | refine Ops.x rfl rfl rfl (X.storeS hst 1 Try.sizeOf28 rfl rfl rfl rfl rfl (Nat.le_of_ble_eq_true rfl) rfl rfl ?_)
    | refine Ops.x rfl rfl rfl (X.storeS hst 2 Try.sizeOf28 rfl rfl rfl rfl rfl (Nat.le_of_ble_eq_true rfl) rfl rfl ?_)
    | refine Ops.x rfl rfl rfl (X.storeS hst 3 Try.sizeOf28 rfl rfl rfl rfl rfl (Nat.le_of_ble_eq_true rfl) rfl rfl ?_)
    clear hst; intro w6_6 hst
    try simp only [List.set_cons_zero, List.set_cons_succ, Nat.zero_add, Nat.reduceAdd, splice, List.take, List.drop, List.append_eq, List.nil_append, List.cons_append, List.length_cons, List.length_nil] at hst
    refine Ops.y rfl rfl rfl hst.ctx (Y.assignI rfl) ?_
    refine Ops.done rfl ?_
    refine W.seq rfl ?_
    refine W.region rfl ?_
    refine Ops.y rfl rfl rfl hst.ctx (Y.moveI rfl) ?_
    refine Ops.y rfl rfl rfl hst.ctx (Y.moveI rfl) ?_
    refine Ops.yb rfl rfl rfl hst.ctx (Y.eql rfl rfl) (fun b24 hb24 => ?_)
    refine Ops.y rfl rfl rfl hst.ctx (Y.moveB rfl) ?_
    cases b24
    · replace hb24 := of_decide_eq_false hb24.symm
      exact absurd rfl hb24
    · replace hb24 := of_decide_eq_true hb24.symm
      first
      | refine Ops.y rfl rfl rfl hst.ctx (Y.loadA 0 Try.isAgg28 Try.sizeOf28 rfl rfl rfl rfl) ?_
      | refine Ops.y rfl rfl rfl hst.ctx (Y.loadA 1 Try.isAgg28 Try.sizeOf28 rfl rfl rfl rfl) ?_
      | refine Ops.y rfl rfl rfl hst.ctx (Y.loadA 2 Try.isAgg28 Try.sizeOf28 rfl rfl rfl rfl) ?_
      | refine Ops.y rfl rfl rfl hst.ctx (Y.loadA 3 Try.isAgg28 Try.sizeOf28 rfl rfl rfl rfl) ?_
      first
      | refine Ops.y rfl rfl rfl hst.ctx (Y.loadA 0 Try.isAgg28 Try.sizeOf28 rfl rfl rfl rfl) ?_
      | refine Ops.y rfl rfl rfl hst.ctx (Y.loadA 1 Try.isAgg28 Try.sizeOf28 rfl rfl rfl rfl) ?_
      | refine Ops.y rfl rfl rfl hst.ctx (Y.loadA 2 Try.isAgg28 Try.sizeOf28 rfl rfl rfl rfl) ?_
      | refine Ops.y rfl rfl rfl hst.ctx (Y.loadA 3 Try.isAgg28 Try.sizeOf28 rfl rfl rfl rfl) ?_
      refine Ops.x rfl rfl rfl (X.call cf20 rfl ?_)
      refine use_call (same_any x x hxin.1 _ _ _ _ _ _ _ _ _ hst (Rds.rowL 3 rfl) (Rds.rowL 1 rfl)) rfl ?_; clear hst; rintro e w1 ⟨b28, rfl, hb28, hst⟩; refine ⟨_, rfl, ?_⟩
      refine Ops.y rfl rfl rfl hst.ctx (Y.pick (.bool _) rfl rfl) ?_
      refine Ops.y rfl rfl rfl hst.ctx (Y.assignB rfl) ?_
      refine Ops.done rfl ?_
      refine W.ret rfl ?_
      cases b28
      · replace hb28 := of_decide_eq_false hb28.symm
        exact absurd (same_iff.2 rfl) hb28
      · replace hb28 := of_decide_eq_true hb28.symm
        refine ⟨_, Rslt.one Try.results5 rfl, ?_⟩
        exact ⟨rfl, hst.drop.drop.drop.drop.below⟩
  · replace hb11 := of_decide_eq_true hb11.symm
    refine W.condT rfl rfl ?_
    refine W.seq rfl ?_
    refine W.region rfl ?_
    refine Ops.y rfl rfl rfl hst.ctx (Y.assignB rfl) ?_
    refine Ops.done rfl ?_
    refine W.ret rfl ?_
    refine ⟨_, Rslt.one Try.results5 rfl, ?_⟩
    exact ⟨rfl, hst.below⟩
end Go.Proofs.Ytkbkgpedpaodlaa.W
