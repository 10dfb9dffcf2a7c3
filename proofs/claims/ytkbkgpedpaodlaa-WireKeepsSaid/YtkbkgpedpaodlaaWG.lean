/- The walks of wire.Good and of the reference's far, Good, anew. -/
import Derived.Test.YtkbkgpedpaodlaaWF
set_option linter.unusedVariables false
set_option linter.unusedSimpArgs false
namespace Go.Proofs.Ytkbkgpedpaodlaa.W
open Go.RowKit Go.Proofs.Ytkbkgpedpaodlaa.K

def Far (x : Int) : Prop := x < -2305843009213693952 ∨ 2305843009213693952 < x
instance (x : Int) : Decidable (Far x) := by unfold Far; infer_instance
theorem far_any (x : Int) (w : World) : Calls Try.prog 23 #[.int .i64 x] w fun e w' => ∃ b, e = .returned (.bool b) ∧ b = decide (x < -2305843009213693952 ∨ 2305843009213693952 < x) ∧ w = w' := by
  refine W.func Try.func23 rfl Try.ntmps23 rfl ?_
  refine W.seq rfl ?_
  refine W.region rfl ?_
  refine Ops.y rfl rfl rfl (any _) (Y.assignB rfl) ?_
  refine Ops.done rfl ?_
  refine W.seq rfl ?_
  refine W.region rfl ?_
  refine Ops.y rfl rfl rfl (any _) (Y.moveI rfl) ?_
  refine Ops.yb rfl rfl rfl (any _) (Y.gtr rfl rfl) (fun b4 hb4 => ?_)
  refine Ops.y rfl rfl rfl (any _) (Y.moveB rfl) ?_
  cases b4
  · replace hb4 := of_decide_eq_false hb4.symm
    refine Ops.y rfl rfl rfl (any _) (Y.moveI rfl) ?_
    refine Ops.yb rfl rfl rfl (any _) (Y.lss rfl rfl) (fun b7 hb7 => ?_)
    refine Ops.y rfl rfl rfl (any _) (Y.pick (.bool _) rfl rfl) ?_
    refine Ops.y rfl rfl rfl (any _) (Y.assignB rfl) ?_
    refine Ops.done rfl ?_
    refine W.ret rfl ?_
    cases b7
    · replace hb7 := of_decide_eq_false hb7.symm
      refine ⟨_, Rslt.one Try.results23 rfl, ?_⟩
      exact ⟨_, rfl, by first | exact (decide_eq_true (by omega)).symm | exact (decide_eq_false (by omega)).symm, rfl⟩
    · replace hb7 := of_decide_eq_true hb7.symm
      refine ⟨_, Rslt.one Try.results23 rfl, ?_⟩
      exact ⟨_, rfl, by first | exact (decide_eq_true (by omega)).symm | exact (decide_eq_false (by omega)).symm, rfl⟩
  · replace hb4 := of_decide_eq_true hb4.symm
    refine Ops.no rfl rfl rfl ?_
    refine Ops.no rfl rfl rfl ?_
    refine Ops.y rfl rfl rfl (any _) (Y.pick (.bool _) rfl rfl) ?_
    refine Ops.y rfl rfl rfl (any _) (Y.assignB rfl) ?_
    refine Ops.done rfl ?_
    refine W.ret rfl ?_
    refine ⟨_, Rslt.one Try.results23 rfl, ?_⟩
    exact ⟨_, rfl, by first | exact (decide_eq_true (by omega)).symm | exact (decide_eq_false (by omega)).symm, rfl⟩

/-- What the document says of a message's numbers. -/
def HdOk (kind from_ slo shi held hops elo ehi pulse time num : Int) : Prop := (1 ≤ kind ∧ kind ≤ 2) ∧ (0 ≤ from_ ∧ from_ ≤ 47) ∧ (¬ Far slo ∧ ¬ Far shi ∧ ¬ Far elo ∧ ¬ Far ehi ∧ ¬ Far pulse ∧ ¬ Far time) ∧ (0 ≤ held ∧ held ≤ 1073741824) ∧ (0 ≤ hops ∧ hops ≤ 17) ∧ (0 ≤ num ∧ num ≤ 1073741824)
instance (kind from_ slo shi held hops elo ehi pulse time num : Int) : Decidable (HdOk kind from_ slo shi held hops elo ehi pulse time num) := by unfold HdOk; infer_instance
set_option maxHeartbeats 4000000 in
theorem good_any (kind from_ slo shi held hops : Int) (good ref : Bool) (elo ehi pulse time num : Int) (tab : List (Int × Int)) (A : Option Addr) (cap : Nat) (w0 w : World) (F0 : List Nat) (L G : List Res) (hst : St w0 F0 w L G)
    (hr : Rds L G (.slice A tab.length cap) tab.length (lcs tab)) (hlen : tab.length ≤ 9223372036854775807) (hwf : ∀ x ∈ tab, In64 x.1 ∧ In64 x.2) :
    Calls Try.prog 10 #[.agg #[.int .i64 kind, .int .i64 from_, .int .i64 slo, .int .i64 shi, .int .i64 held, .int .i64 hops, .bool good, .bool ref, .int .i64 elo, .int .i64 ehi, .int .i64 pulse, .int .i64 time, .int .i64 num, .slice A tab.length cap]] w
      fun e w' => ∃ b, e = .returned (.bool b) ∧ b = decide (HdOk kind from_ slo shi held hops elo ehi pulse time num ∧ TabOk tab) ∧ St w0 F0 w' L G := by
  refine W.func Try.func10 rfl Try.ntmps10 rfl ?_
  refine W.seq rfl ?_
  refine W.region rfl ?_
  refine Ops.x rfl rfl rfl (X.boxA hst rfl ?_)
  clear hst; intro p1 w1 hst
  refine Ops.y rfl rfl rfl hst.ctx (Y.assignB rfl) ?_
  refine Ops.done rfl ?_
  refine W.seq rfl ?_
  refine W.region rfl ?_
  first
  | refine Ops.y rfl rfl rfl hst.ctx (Y.fieldAddr fa28_0 rfl) ?_
  | refine Ops.y rfl rfl rfl hst.ctx (Y.fieldAddrP fa28_0 rfl) ?_
  refine Ops.y rfl rfl rfl hst.ctx (Y.load 0 Try.isAgg3 rfl rfl rfl) ?_
  refine Ops.x rfl rfl rfl (X.lits hst Try.underlying70 Try.sizeOf3 Try.zeroValue3 (by rfl) (by rfl) (by rfl) [.int _ _] (by rfl) (by rfl) ?_)
  clear hst; intro p7 w7 hst
  refine Ops.x rfl rfl rfl (X.call cf22 rfl ?_)
  refine use_call (in_b (1) (2) _ [kind] _ ((1 ≤ kind ∧ kind ≤ 2)) ((Rds.ofCells 0 rfl 1 1).sl hst) (by simp) (by simp)) rfl ?_; rintro e w' ⟨b8, rfl, hb8, rfl⟩; refine ⟨_, rfl, ?_⟩; replace hst := hst.drop
  refine Ops.y rfl rfl rfl hst.ctx (Y.moveB rfl) ?_
  cases b8
  · replace hb8 := of_decide_eq_false hb8.symm
    refine Ops.no rfl rfl rfl ?_
    refine Ops.no rfl rfl rfl ?_
    refine Ops.no rfl rfl rfl ?_
    refine Ops.no rfl rfl rfl ?_
    refine Ops.y rfl rfl rfl hst.ctx (Y.pick (.bool _) rfl rfl) ?_
    refine Ops.y rfl rfl rfl hst.ctx (Y.assignB rfl) ?_
    refine Ops.done rfl ?_
    refine W.seq rfl ?_
    refine W.region rfl ?_
    first
    | refine Ops.y rfl rfl rfl hst.ctx (Y.fieldAddr fa28_2 rfl) ?_
    | refine Ops.y rfl rfl rfl hst.ctx (Y.fieldAddrP fa28_2 rfl) ?_
    first
    | refine Ops.y rfl rfl rfl hst.ctx (Y.fieldAddr fa23_0 rfl) ?_
    | refine Ops.y rfl rfl rfl hst.ctx (Y.fieldAddrP fa23_0 rfl) ?_
    first
    | refine Ops.y rfl rfl rfl hst.ctx (Y.load 0 Try.isAgg3 rfl rfl rfl) ?_
    | refine Ops.y rfl rfl rfl hst.ctx (Y.load 1 Try.isAgg3 rfl rfl rfl) ?_
    first
    | refine Ops.y rfl rfl rfl hst.ctx (Y.fieldAddr fa28_2 rfl) ?_
    | refine Ops.y rfl rfl rfl hst.ctx (Y.fieldAddrP fa28_2 rfl) ?_
    first
    | refine Ops.y rfl rfl rfl hst.ctx (Y.fieldAddr fa23_1 rfl) ?_
    | refine Ops.y rfl rfl rfl hst.ctx (Y.fieldAddrP fa23_1 rfl) ?_
    first
    | refine Ops.y rfl rfl rfl hst.ctx (Y.load 0 Try.isAgg3 rfl rfl rfl) ?_
    | refine Ops.y rfl rfl rfl hst.ctx (Y.load 1 Try.isAgg3 rfl rfl rfl) ?_
    first
    | refine Ops.y rfl rfl rfl hst.ctx (Y.fieldAddr fa28_7 rfl) ?_
    | refine Ops.y rfl rfl rfl hst.ctx (Y.fieldAddrP fa28_7 rfl) ?_
    first
    | refine Ops.y rfl rfl rfl hst.ctx (Y.fieldAddr fa23_0 rfl) ?_
    | refine Ops.y rfl rfl rfl hst.ctx (Y.fieldAddrP fa23_0 rfl) ?_
    first
    | refine Ops.y rfl rfl rfl hst.ctx (Y.load 0 Try.isAgg3 rfl rfl rfl) ?_
    | refine Ops.y rfl rfl rfl hst.ctx (Y.load 1 Try.isAgg3 rfl rfl rfl) ?_
    first
    | refine Ops.y rfl rfl rfl hst.ctx (Y.fieldAddr fa28_7 rfl) ?_
    | refine Ops.y rfl rfl rfl hst.ctx (Y.fieldAddrP fa28_7 rfl) ?_
    first
    | refine Ops.y rfl rfl rfl hst.ctx (Y.fieldAddr fa23_1 rfl) ?_
    | refine Ops.y rfl rfl rfl hst.ctx (Y.fieldAddrP fa23_1 rfl) ?_
    first
    | refine Ops.y rfl rfl rfl hst.ctx (Y.load 0 Try.isAgg3 rfl rfl rfl) ?_
    | refine Ops.y rfl rfl rfl hst.ctx (Y.load 1 Try.isAgg3 rfl rfl rfl) ?_
    first
    | refine Ops.y rfl rfl rfl hst.ctx (Y.fieldAddr fa28_8 rfl) ?_
    | refine Ops.y rfl rfl rfl hst.ctx (Y.fieldAddrP fa28_8 rfl) ?_
    first
    | refine Ops.y rfl rfl rfl hst.ctx (Y.load 0 Try.isAgg3 rfl rfl rfl) ?_
    | refine Ops.y rfl rfl rfl hst.ctx (Y.load 1 Try.isAgg3 rfl rfl rfl) ?_
    first
    | refine Ops.y rfl rfl rfl hst.ctx (Y.fieldAddr fa28_9 rfl) ?_
    | refine Ops.y rfl rfl rfl hst.ctx (Y.fieldAddrP fa28_9 rfl) ?_
    first
    | refine Ops.y rfl rfl rfl hst.ctx (Y.fieldAddr fa25_0 rfl) ?_
    | refine Ops.y rfl rfl rfl hst.ctx (Y.fieldAddrP fa25_0 rfl) ?_
    first
    | refine Ops.y rfl rfl rfl hst.ctx (Y.load 0 Try.isAgg3 rfl rfl rfl) ?_
    | refine Ops.y rfl rfl rfl hst.ctx (Y.load 1 Try.isAgg3 rfl rfl rfl) ?_
    refine Ops.x rfl rfl rfl (X.lits hst Try.underlying70 Try.sizeOf3 Try.zeroValue3 (by rfl) (by rfl) (by rfl) [.int _ _, .int _ _, .int _ _, .int _ _, .int _ _, .int _ _] (by rfl) (by rfl) ?_)
    clear hst; intro p32 w32 hst
    refine Ops.x rfl rfl rfl (X.call cf22 rfl ?_)
    refine use_call (in_b (-2305843009213693952) (2305843009213693952) _ [slo, shi, elo, ehi, pulse, time] _ ((-2305843009213693952 ≤ slo ∧ slo ≤ 2305843009213693952) ∧ (-2305843009213693952 ≤ shi ∧ shi ≤ 2305843009213693952) ∧ (-2305843009213693952 ≤ elo ∧ elo ≤ 2305843009213693952) ∧ (-2305843009213693952 ≤ ehi ∧ ehi ≤ 2305843009213693952) ∧ (-2305843009213693952 ≤ pulse ∧ pulse ≤ 2305843009213693952) ∧ (-2305843009213693952 ≤ time ∧ time ≤ 2305843009213693952)) ((Rds.ofCells 0 rfl 6 6).sl hst) (by simp) (by simp)) rfl ?_; rintro e w' ⟨b33, rfl, hb33, rfl⟩; refine ⟨_, rfl, ?_⟩; replace hst := hst.drop
    refine Ops.y rfl rfl rfl hst.ctx (Y.assignB rfl) ?_
    refine Ops.done rfl ?_
    refine W.seq rfl ?_
    refine W.region rfl ?_
    refine Ops.y rfl rfl rfl hst.ctx (Y.moveB rfl) ?_
    refine Ops.y rfl rfl rfl hst.ctx (Y.moveB rfl) ?_
    refine Ops.no rfl rfl rfl ?_
    refine Ops.y rfl rfl rfl hst.ctx (Y.pick (.bool _) rfl rfl) ?_
    refine Ops.y rfl rfl rfl hst.ctx (Y.moveB rfl) ?_
    refine Ops.no rfl rfl rfl ?_
    refine Ops.no rfl rfl rfl ?_
    refine Ops.no rfl rfl rfl ?_
    refine Ops.no rfl rfl rfl ?_
    refine Ops.y rfl rfl rfl hst.ctx (Y.pick (.bool _) rfl rfl) ?_
    refine Ops.y rfl rfl rfl hst.ctx (Y.moveB rfl) ?_
    refine Ops.no rfl rfl rfl ?_
    refine Ops.no rfl rfl rfl ?_
    refine Ops.no rfl rfl rfl ?_
    refine Ops.no rfl rfl rfl ?_
    refine Ops.y rfl rfl rfl hst.ctx (Y.pick (.bool _) rfl rfl) ?_
    refine Ops.y rfl rfl rfl hst.ctx (Y.moveB rfl) ?_
    refine Ops.no rfl rfl rfl ?_
    refine Ops.no rfl rfl rfl ?_
    refine Ops.no rfl rfl rfl ?_
    refine Ops.no rfl rfl rfl ?_
    refine Ops.no rfl rfl rfl ?_
    refine Ops.y rfl rfl rfl hst.ctx (Y.pick (.bool _) rfl rfl) ?_
    refine Ops.y rfl rfl rfl hst.ctx (Y.moveB rfl) ?_
    refine Ops.no rfl rfl rfl ?_
    refine Ops.no rfl rfl rfl ?_
    refine Ops.no rfl rfl rfl ?_
    refine Ops.y rfl rfl rfl hst.ctx (Y.pick (.bool _) rfl rfl) ?_
    refine Ops.y rfl rfl rfl hst.ctx (Y.assignB rfl) ?_
    refine Ops.done rfl ?_
    refine W.ret rfl ?_
    refine ⟨_, Rslt.one Try.results10 rfl, ?_⟩
    refine ⟨_, rfl, ?_, hst.drop⟩
    first | exact (decide_eq_true ⟨by unfold HdOk Far; omega, by assumption⟩).symm | exact (decide_eq_false (fun h => by unfold HdOk Far at h; omega)).symm | exact (decide_eq_false (fun h => by have := h.2; contradiction)).symm
  · replace hb8 := of_decide_eq_true hb8.symm
    first
    | refine Ops.y rfl rfl rfl hst.ctx (Y.fieldAddr fa28_1 rfl) ?_
    | refine Ops.y rfl rfl rfl hst.ctx (Y.fieldAddrP fa28_1 rfl) ?_
    first
    | refine Ops.y rfl rfl rfl hst.ctx (Y.load 0 Try.isAgg3 rfl rfl rfl) ?_
    | refine Ops.y rfl rfl rfl hst.ctx (Y.load 1 Try.isAgg3 rfl rfl rfl) ?_
    refine Ops.x rfl rfl rfl (X.lits hst Try.underlying70 Try.sizeOf3 Try.zeroValue3 (by rfl) (by rfl) (by rfl) [.int _ _] (by rfl) (by rfl) ?_)
    clear hst; intro p12 w12 hst
    refine Ops.x rfl rfl rfl (X.call cf22 rfl ?_)
    refine use_call (in_b (0) (47) _ [from_] _ ((0 ≤ from_ ∧ from_ ≤ 47)) ((Rds.ofCells 0 rfl 1 1).sl hst) (by simp) (by simp)) rfl ?_; rintro e w' ⟨b13, rfl, hb13, rfl⟩; refine ⟨_, rfl, ?_⟩; replace hst := hst.drop
    refine Ops.y rfl rfl rfl hst.ctx (Y.pick (.bool _) rfl rfl) ?_
    refine Ops.y rfl rfl rfl hst.ctx (Y.assignB rfl) ?_
    refine Ops.done rfl ?_
    refine W.seq rfl ?_
    refine W.region rfl ?_
    first
    | refine Ops.y rfl rfl rfl hst.ctx (Y.fieldAddr fa28_2 rfl) ?_
    | refine Ops.y rfl rfl rfl hst.ctx (Y.fieldAddrP fa28_2 rfl) ?_
    first
    | refine Ops.y rfl rfl rfl hst.ctx (Y.fieldAddr fa23_0 rfl) ?_
    | refine Ops.y rfl rfl rfl hst.ctx (Y.fieldAddrP fa23_0 rfl) ?_
    first
    | refine Ops.y rfl rfl rfl hst.ctx (Y.load 0 Try.isAgg3 rfl rfl rfl) ?_
    | refine Ops.y rfl rfl rfl hst.ctx (Y.load 1 Try.isAgg3 rfl rfl rfl) ?_
    | refine Ops.y rfl rfl rfl hst.ctx (Y.load 2 Try.isAgg3 rfl rfl rfl) ?_
    first
    | refine Ops.y rfl rfl rfl hst.ctx (Y.fieldAddr fa28_2 rfl) ?_
    | refine Ops.y rfl rfl rfl hst.ctx (Y.fieldAddrP fa28_2 rfl) ?_
    first
    | refine Ops.y rfl rfl rfl hst.ctx (Y.fieldAddr fa23_1 rfl) ?_
    | refine Ops.y rfl rfl rfl hst.ctx (Y.fieldAddrP fa23_1 rfl) ?_
    first
    | refine Ops.y rfl rfl rfl hst.ctx (Y.load 0 Try.isAgg3 rfl rfl rfl) ?_
    | refine Ops.y rfl rfl rfl hst.ctx (Y.load 1 Try.isAgg3 rfl rfl rfl) ?_
    | refine Ops.y rfl rfl rfl hst.ctx (Y.load 2 Try.isAgg3 rfl rfl rfl) ?_
    first
    | refine Ops.y rfl rfl rfl hst.ctx (Y.fieldAddr fa28_7 rfl) ?_
    | refine Ops.y rfl rfl rfl hst.ctx (Y.fieldAddrP fa28_7 rfl) ?_
    first
    | refine Ops.y rfl rfl rfl hst.ctx (Y.fieldAddr fa23_0 rfl) ?_
    | refine Ops.y rfl rfl rfl hst.ctx (Y.fieldAddrP fa23_0 rfl) ?_
    first
    | refine Ops.y rfl rfl rfl hst.ctx (Y.load 0 Try.isAgg3 rfl rfl rfl) ?_
    | refine Ops.y rfl rfl rfl hst.ctx (Y.load 1 Try.isAgg3 rfl rfl rfl) ?_
    | refine Ops.y rfl rfl rfl hst.ctx (Y.load 2 Try.isAgg3 rfl rfl rfl) ?_
    first
    | refine Ops.y rfl rfl rfl hst.ctx (Y.fieldAddr fa28_7 rfl) ?_
    | refine Ops.y rfl rfl rfl hst.ctx (Y.fieldAddrP fa28_7 rfl) ?_
    first
    | refine Ops.y rfl rfl rfl hst.ctx (Y.fieldAddr fa23_1 rfl) ?_
    | refine Ops.y rfl rfl rfl hst.ctx (Y.fieldAddrP fa23_1 rfl) ?_
    first
    | refine Ops.y rfl rfl rfl hst.ctx (Y.load 0 Try.isAgg3 rfl rfl rfl) ?_
    | refine Ops.y rfl rfl rfl hst.ctx (Y.load 1 Try.isAgg3 rfl rfl rfl) ?_
    | refine Ops.y rfl rfl rfl hst.ctx (Y.load 2 Try.isAgg3 rfl rfl rfl) ?_
    first
    | refine Ops.y rfl rfl rfl hst.ctx (Y.fieldAddr fa28_8 rfl) ?_
    | refine Ops.y rfl rfl rfl hst.ctx (Y.fieldAddrP fa28_8 rfl) ?_
    first
    | refine Ops.y rfl rfl rfl hst.ctx (Y.load 0 Try.isAgg3 rfl rfl rfl) ?_
    | refine Ops.y rfl rfl rfl hst.ctx (Y.load 1 Try.isAgg3 rfl rfl rfl) ?_
    | refine Ops.y rfl rfl rfl hst.ctx (Y.load 2 Try.isAgg3 rfl rfl rfl) ?_
    first
    | refine Ops.y rfl rfl rfl hst.ctx (Y.fieldAddr fa28_9 rfl) ?_
    | refine Ops.y rfl rfl rfl hst.ctx (Y.fieldAddrP fa28_9 rfl) ?_
    first
    | refine Ops.y rfl rfl rfl hst.ctx (Y.fieldAddr fa25_0 rfl) ?_
    | refine Ops.y rfl rfl rfl hst.ctx (Y.fieldAddrP fa25_0 rfl) ?_
    first
    | refine Ops.y rfl rfl rfl hst.ctx (Y.load 0 Try.isAgg3 rfl rfl rfl) ?_
    | refine Ops.y rfl rfl rfl hst.ctx (Y.load 1 Try.isAgg3 rfl rfl rfl) ?_
    | refine Ops.y rfl rfl rfl hst.ctx (Y.load 2 Try.isAgg3 rfl rfl rfl) ?_
    refine Ops.x rfl rfl rfl (X.lits hst Try.underlying70 Try.sizeOf3 Try.zeroValue3 (by rfl) (by rfl) (by rfl) [.int _ _, .int _ _, .int _ _, .int _ _, .int _ _, .int _ _] (by rfl) (by rfl) ?_)
    clear hst; intro p32 w32 hst
    refine Ops.x rfl rfl rfl (X.call cf22 rfl ?_)
    refine use_call (in_b (-2305843009213693952) (2305843009213693952) _ [slo, shi, elo, ehi, pulse, time] _ ((-2305843009213693952 ≤ slo ∧ slo ≤ 2305843009213693952) ∧ (-2305843009213693952 ≤ shi ∧ shi ≤ 2305843009213693952) ∧ (-2305843009213693952 ≤ elo ∧ elo ≤ 2305843009213693952) ∧ (-2305843009213693952 ≤ ehi ∧ ehi ≤ 2305843009213693952) ∧ (-2305843009213693952 ≤ pulse ∧ pulse ≤ 2305843009213693952) ∧ (-2305843009213693952 ≤ time ∧ time ≤ 2305843009213693952)) ((Rds.ofCells 0 rfl 6 6).sl hst) (by simp) (by simp)) rfl ?_; rintro e w' ⟨b33, rfl, hb33, rfl⟩; refine ⟨_, rfl, ?_⟩; replace hst := hst.drop
    refine Ops.y rfl rfl rfl hst.ctx (Y.assignB rfl) ?_
    refine Ops.done rfl ?_
    refine W.seq rfl ?_
    refine W.region rfl ?_
    refine Ops.y rfl rfl rfl hst.ctx (Y.moveB rfl) ?_
    refine Ops.y rfl rfl rfl hst.ctx (Y.moveB rfl) ?_
    cases b13
    · replace hb13 := of_decide_eq_false hb13.symm
      refine Ops.no rfl rfl rfl ?_
      refine Ops.y rfl rfl rfl hst.ctx (Y.pick (.bool _) rfl rfl) ?_
      refine Ops.y rfl rfl rfl hst.ctx (Y.moveB rfl) ?_
      refine Ops.no rfl rfl rfl ?_
      refine Ops.no rfl rfl rfl ?_
      refine Ops.no rfl rfl rfl ?_
      refine Ops.no rfl rfl rfl ?_
      refine Ops.y rfl rfl rfl hst.ctx (Y.pick (.bool _) rfl rfl) ?_
      refine Ops.y rfl rfl rfl hst.ctx (Y.moveB rfl) ?_
      refine Ops.no rfl rfl rfl ?_
      refine Ops.no rfl rfl rfl ?_
      refine Ops.no rfl rfl rfl ?_
      refine Ops.no rfl rfl rfl ?_
      refine Ops.y rfl rfl rfl hst.ctx (Y.pick (.bool _) rfl rfl) ?_
      refine Ops.y rfl rfl rfl hst.ctx (Y.moveB rfl) ?_
      refine Ops.no rfl rfl rfl ?_
      refine Ops.no rfl rfl rfl ?_
      refine Ops.no rfl rfl rfl ?_
      refine Ops.no rfl rfl rfl ?_
      refine Ops.no rfl rfl rfl ?_
      refine Ops.y rfl rfl rfl hst.ctx (Y.pick (.bool _) rfl rfl) ?_
      refine Ops.y rfl rfl rfl hst.ctx (Y.moveB rfl) ?_
      refine Ops.no rfl rfl rfl ?_
      refine Ops.no rfl rfl rfl ?_
      refine Ops.no rfl rfl rfl ?_
      refine Ops.y rfl rfl rfl hst.ctx (Y.pick (.bool _) rfl rfl) ?_
      refine Ops.y rfl rfl rfl hst.ctx (Y.assignB rfl) ?_
      refine Ops.done rfl ?_
      refine W.ret rfl ?_
      refine ⟨_, Rslt.one Try.results10 rfl, ?_⟩
      refine ⟨_, rfl, ?_, hst.drop⟩
      first | exact (decide_eq_true ⟨by unfold HdOk Far; omega, by assumption⟩).symm | exact (decide_eq_false (fun h => by unfold HdOk Far at h; omega)).symm | exact (decide_eq_false (fun h => by have := h.2; contradiction)).symm
    · replace hb13 := of_decide_eq_true hb13.symm
      refine Ops.y rfl rfl rfl hst.ctx (Y.moveB rfl) ?_
      refine Ops.y rfl rfl rfl hst.ctx (Y.pick (.bool _) rfl rfl) ?_
      refine Ops.y rfl rfl rfl hst.ctx (Y.moveB rfl) ?_
      cases b33
      · replace hb33 := of_decide_eq_false hb33.symm
        refine Ops.no rfl rfl rfl ?_
        refine Ops.no rfl rfl rfl ?_
        refine Ops.no rfl rfl rfl ?_
        refine Ops.no rfl rfl rfl ?_
        refine Ops.y rfl rfl rfl hst.ctx (Y.pick (.bool _) rfl rfl) ?_
        refine Ops.y rfl rfl rfl hst.ctx (Y.moveB rfl) ?_
        refine Ops.no rfl rfl rfl ?_
        refine Ops.no rfl rfl rfl ?_
        refine Ops.no rfl rfl rfl ?_
        refine Ops.no rfl rfl rfl ?_
        refine Ops.y rfl rfl rfl hst.ctx (Y.pick (.bool _) rfl rfl) ?_
        refine Ops.y rfl rfl rfl hst.ctx (Y.moveB rfl) ?_
        refine Ops.no rfl rfl rfl ?_
        refine Ops.no rfl rfl rfl ?_
        refine Ops.no rfl rfl rfl ?_
        refine Ops.no rfl rfl rfl ?_
        refine Ops.no rfl rfl rfl ?_
        refine Ops.y rfl rfl rfl hst.ctx (Y.pick (.bool _) rfl rfl) ?_
        refine Ops.y rfl rfl rfl hst.ctx (Y.moveB rfl) ?_
        refine Ops.no rfl rfl rfl ?_
        refine Ops.no rfl rfl rfl ?_
        refine Ops.no rfl rfl rfl ?_
        refine Ops.y rfl rfl rfl hst.ctx (Y.pick (.bool _) rfl rfl) ?_
        refine Ops.y rfl rfl rfl hst.ctx (Y.assignB rfl) ?_
        refine Ops.done rfl ?_
        refine W.ret rfl ?_
        refine ⟨_, Rslt.one Try.results10 rfl, ?_⟩
        refine ⟨_, rfl, ?_, hst.drop⟩
        first | exact (decide_eq_true ⟨by unfold HdOk Far; omega, by assumption⟩).symm | exact (decide_eq_false (fun h => by unfold HdOk Far at h; omega)).symm | exact (decide_eq_false (fun h => by have := h.2; contradiction)).symm
      · replace hb33 := of_decide_eq_true hb33.symm
        first
        | refine Ops.y rfl rfl rfl hst.ctx (Y.fieldAddr fa28_3 rfl) ?_
        | refine Ops.y rfl rfl rfl hst.ctx (Y.fieldAddrP fa28_3 rfl) ?_
        first
        | refine Ops.y rfl rfl rfl hst.ctx (Y.load 0 Try.isAgg3 rfl rfl rfl) ?_
        | refine Ops.y rfl rfl rfl hst.ctx (Y.load 1 Try.isAgg3 rfl rfl rfl) ?_
        | refine Ops.y rfl rfl rfl hst.ctx (Y.load 2 Try.isAgg3 rfl rfl rfl) ?_
        | refine Ops.y rfl rfl rfl hst.ctx (Y.load 3 Try.isAgg3 rfl rfl rfl) ?_
        refine Ops.x rfl rfl rfl (X.lits hst Try.underlying70 Try.sizeOf3 Try.zeroValue3 (by rfl) (by rfl) (by rfl) [.int _ _] (by rfl) (by rfl) ?_)
        clear hst; intro p41 w41 hst
        refine Ops.x rfl rfl rfl (X.call cf22 rfl ?_)
        refine use_call (in_b (0) (1073741824) _ [held] _ ((0 ≤ held ∧ held ≤ 1073741824)) ((Rds.ofCells 0 rfl 1 1).sl hst) (by simp) (by simp)) rfl ?_; rintro e w' ⟨b42, rfl, hb42, rfl⟩; refine ⟨_, rfl, ?_⟩; replace hst := hst.drop
        refine Ops.y rfl rfl rfl hst.ctx (Y.pick (.bool _) rfl rfl) ?_
        refine Ops.y rfl rfl rfl hst.ctx (Y.moveB rfl) ?_
        cases b42
        · replace hb42 := of_decide_eq_false hb42.symm
          refine Ops.no rfl rfl rfl ?_
          refine Ops.no rfl rfl rfl ?_
          refine Ops.no rfl rfl rfl ?_
          refine Ops.no rfl rfl rfl ?_
          refine Ops.y rfl rfl rfl hst.ctx (Y.pick (.bool _) rfl rfl) ?_
          refine Ops.y rfl rfl rfl hst.ctx (Y.moveB rfl) ?_
          refine Ops.no rfl rfl rfl ?_
          refine Ops.no rfl rfl rfl ?_
          refine Ops.no rfl rfl rfl ?_
          refine Ops.no rfl rfl rfl ?_
          refine Ops.no rfl rfl rfl ?_
          refine Ops.y rfl rfl rfl hst.ctx (Y.pick (.bool _) rfl rfl) ?_
          refine Ops.y rfl rfl rfl hst.ctx (Y.moveB rfl) ?_
          refine Ops.no rfl rfl rfl ?_
          refine Ops.no rfl rfl rfl ?_
          refine Ops.no rfl rfl rfl ?_
          refine Ops.y rfl rfl rfl hst.ctx (Y.pick (.bool _) rfl rfl) ?_
          refine Ops.y rfl rfl rfl hst.ctx (Y.assignB rfl) ?_
          refine Ops.done rfl ?_
          refine W.ret rfl ?_
          refine ⟨_, Rslt.one Try.results10 rfl, ?_⟩
          refine ⟨_, rfl, ?_, hst.drop⟩
          first | exact (decide_eq_true ⟨by unfold HdOk Far; omega, by assumption⟩).symm | exact (decide_eq_false (fun h => by unfold HdOk Far at h; omega)).symm | exact (decide_eq_false (fun h => by have := h.2; contradiction)).symm
        · replace hb42 := of_decide_eq_true hb42.symm
          first
          | refine Ops.y rfl rfl rfl hst.ctx (Y.fieldAddr fa28_4 rfl) ?_
          | refine Ops.y rfl rfl rfl hst.ctx (Y.fieldAddrP fa28_4 rfl) ?_
          first
          | refine Ops.y rfl rfl rfl hst.ctx (Y.load 0 Try.isAgg3 rfl rfl rfl) ?_
          | refine Ops.y rfl rfl rfl hst.ctx (Y.load 1 Try.isAgg3 rfl rfl rfl) ?_
          | refine Ops.y rfl rfl rfl hst.ctx (Y.load 2 Try.isAgg3 rfl rfl rfl) ?_
          | refine Ops.y rfl rfl rfl hst.ctx (Y.load 3 Try.isAgg3 rfl rfl rfl) ?_
          | refine Ops.y rfl rfl rfl hst.ctx (Y.load 4 Try.isAgg3 rfl rfl rfl) ?_
          refine Ops.x rfl rfl rfl (X.lits hst Try.underlying70 Try.sizeOf3 Try.zeroValue3 (by rfl) (by rfl) (by rfl) [.int _ _] (by rfl) (by rfl) ?_)
          clear hst; intro p47 w47 hst
          refine Ops.x rfl rfl rfl (X.call cf22 rfl ?_)
          refine use_call (in_b (0) (17) _ [hops] _ ((0 ≤ hops ∧ hops ≤ 17)) ((Rds.ofCells 0 rfl 1 1).sl hst) (by simp) (by simp)) rfl ?_; rintro e w' ⟨b48, rfl, hb48, rfl⟩; refine ⟨_, rfl, ?_⟩; replace hst := hst.drop
          refine Ops.y rfl rfl rfl hst.ctx (Y.pick (.bool _) rfl rfl) ?_
          refine Ops.y rfl rfl rfl hst.ctx (Y.moveB rfl) ?_
          cases b48
          · replace hb48 := of_decide_eq_false hb48.symm
            refine Ops.no rfl rfl rfl ?_
            refine Ops.no rfl rfl rfl ?_
            refine Ops.no rfl rfl rfl ?_
            refine Ops.no rfl rfl rfl ?_
            refine Ops.no rfl rfl rfl ?_
            refine Ops.y rfl rfl rfl hst.ctx (Y.pick (.bool _) rfl rfl) ?_
            refine Ops.y rfl rfl rfl hst.ctx (Y.moveB rfl) ?_
            refine Ops.no rfl rfl rfl ?_
            refine Ops.no rfl rfl rfl ?_
            refine Ops.no rfl rfl rfl ?_
            refine Ops.y rfl rfl rfl hst.ctx (Y.pick (.bool _) rfl rfl) ?_
            refine Ops.y rfl rfl rfl hst.ctx (Y.assignB rfl) ?_
            refine Ops.done rfl ?_
            refine W.ret rfl ?_
            refine ⟨_, Rslt.one Try.results10 rfl, ?_⟩
            refine ⟨_, rfl, ?_, hst.drop⟩
            first | exact (decide_eq_true ⟨by unfold HdOk Far; omega, by assumption⟩).symm | exact (decide_eq_false (fun h => by unfold HdOk Far at h; omega)).symm | exact (decide_eq_false (fun h => by have := h.2; contradiction)).symm
          · replace hb48 := of_decide_eq_true hb48.symm
            first
            | refine Ops.y rfl rfl rfl hst.ctx (Y.fieldAddr fa28_9 rfl) ?_
            | refine Ops.y rfl rfl rfl hst.ctx (Y.fieldAddrP fa28_9 rfl) ?_
            first
            | refine Ops.y rfl rfl rfl hst.ctx (Y.fieldAddr fa25_1 rfl) ?_
            | refine Ops.y rfl rfl rfl hst.ctx (Y.fieldAddrP fa25_1 rfl) ?_
            first
            | refine Ops.y rfl rfl rfl hst.ctx (Y.load 0 Try.isAgg3 rfl rfl rfl) ?_
            | refine Ops.y rfl rfl rfl hst.ctx (Y.load 1 Try.isAgg3 rfl rfl rfl) ?_
            | refine Ops.y rfl rfl rfl hst.ctx (Y.load 2 Try.isAgg3 rfl rfl rfl) ?_
            | refine Ops.y rfl rfl rfl hst.ctx (Y.load 3 Try.isAgg3 rfl rfl rfl) ?_
            | refine Ops.y rfl rfl rfl hst.ctx (Y.load 4 Try.isAgg3 rfl rfl rfl) ?_
            | refine Ops.y rfl rfl rfl hst.ctx (Y.load 5 Try.isAgg3 rfl rfl rfl) ?_
            refine Ops.x rfl rfl rfl (X.lits hst Try.underlying70 Try.sizeOf3 Try.zeroValue3 (by rfl) (by rfl) (by rfl) [.int _ _] (by rfl) (by rfl) ?_)
            clear hst; intro p54 w54 hst
            refine Ops.x rfl rfl rfl (X.call cf22 rfl ?_)
            refine use_call (in_b (0) (1073741824) _ [num] _ ((0 ≤ num ∧ num ≤ 1073741824)) ((Rds.ofCells 0 rfl 1 1).sl hst) (by simp) (by simp)) rfl ?_; rintro e w' ⟨b55, rfl, hb55, rfl⟩; refine ⟨_, rfl, ?_⟩; replace hst := hst.drop
            refine Ops.y rfl rfl rfl hst.ctx (Y.pick (.bool _) rfl rfl) ?_
            refine Ops.y rfl rfl rfl hst.ctx (Y.moveB rfl) ?_
            cases b55
            · replace hb55 := of_decide_eq_false hb55.symm
              refine Ops.no rfl rfl rfl ?_
              refine Ops.no rfl rfl rfl ?_
              refine Ops.no rfl rfl rfl ?_
              refine Ops.y rfl rfl rfl hst.ctx (Y.pick (.bool _) rfl rfl) ?_
              refine Ops.y rfl rfl rfl hst.ctx (Y.assignB rfl) ?_
              refine Ops.done rfl ?_
              refine W.ret rfl ?_
              refine ⟨_, Rslt.one Try.results10 rfl, ?_⟩
              refine ⟨_, rfl, ?_, hst.drop⟩
              first | exact (decide_eq_true ⟨by unfold HdOk Far; omega, by assumption⟩).symm | exact (decide_eq_false (fun h => by unfold HdOk Far at h; omega)).symm | exact (decide_eq_false (fun h => by have := h.2; contradiction)).symm
            · replace hb55 := of_decide_eq_true hb55.symm
              first
              | refine Ops.y rfl rfl rfl hst.ctx (Y.fieldAddr fa28_10 rfl) ?_
              | refine Ops.y rfl rfl rfl hst.ctx (Y.fieldAddrP fa28_10 rfl) ?_
              first
              | refine Ops.y rfl rfl rfl hst.ctx (Y.load 0 Try.isAgg26 rfl rfl rfl) ?_
              | refine Ops.y rfl rfl rfl hst.ctx (Y.load 1 Try.isAgg26 rfl rfl rfl) ?_
              | refine Ops.y rfl rfl rfl hst.ctx (Y.load 2 Try.isAgg26 rfl rfl rfl) ?_
              | refine Ops.y rfl rfl rfl hst.ctx (Y.load 3 Try.isAgg26 rfl rfl rfl) ?_
              | refine Ops.y rfl rfl rfl hst.ctx (Y.load 4 Try.isAgg26 rfl rfl rfl) ?_
              | refine Ops.y rfl rfl rfl hst.ctx (Y.load 5 Try.isAgg26 rfl rfl rfl) ?_
              | refine Ops.y rfl rfl rfl hst.ctx (Y.load 6 Try.isAgg26 rfl rfl rfl) ?_
              refine Ops.x rfl rfl rfl (X.call cf13 rfl ?_)
              refine use_call (table_b _ tab _ _ _ _ _ hst (hr.cons _) hlen hwf) rfl ?_; rintro e w1 ⟨b60, rfl, hb60, hst⟩; refine ⟨_, rfl, ?_⟩
              refine Ops.y rfl rfl rfl hst.ctx (Y.pick (.bool _) rfl rfl) ?_
              refine Ops.y rfl rfl rfl hst.ctx (Y.assignB rfl) ?_
              refine Ops.done rfl ?_
              refine W.ret rfl ?_
              cases b60
              · replace hb60 := of_decide_eq_false hb60.symm
                refine ⟨_, Rslt.one Try.results10 rfl, ?_⟩
                refine ⟨_, rfl, ?_, hst.drop⟩
                first | exact (decide_eq_true ⟨by unfold HdOk Far; omega, by assumption⟩).symm | exact (decide_eq_false (fun h => by unfold HdOk Far at h; omega)).symm | exact (decide_eq_false (fun h => by have := h.2; contradiction)).symm
              · replace hb60 := of_decide_eq_true hb60.symm
                refine ⟨_, Rslt.one Try.results10 rfl, ?_⟩
                refine ⟨_, rfl, ?_, hst.drop⟩
                first | exact (decide_eq_true ⟨by unfold HdOk Far; omega, by assumption⟩).symm | exact (decide_eq_false (fun h => by unfold HdOk Far at h; omega)).symm | exact (decide_eq_false (fun h => by have := h.2; contradiction)).symm

set_option maxHeartbeats 4000000 in
theorem rtable_b (v : Value) (l : List (Int × Int)) (w0 w : World) (F0 : List Nat) (L G : List Res) (hst : St w0 F0 w L G) (hr : Rds L G v l.length (lcs l)) (hl : l.length ≤ 9223372036854775807) (hwf : ∀ x ∈ l, In64 x.1 ∧ In64 x.2) :
    Calls Try.prog 14 #[v] w fun e w' => ∃ b, e = .returned (.bool b) ∧ b = decide (TabOk l) ∧ St w0 F0 w' L G := by
  obtain ⟨A, cap, rfl, hcap, -⟩ := hr.sl hst
  refine W.func Try.func14 rfl Try.ntmps14 rfl ?_
  refine W.seq rfl ?_
  refine W.region rfl ?_
  refine Ops.y rfl rfl rfl hst.ctx (Y.assignB rfl) ?_
  refine Ops.done rfl ?_
  refine W.seq rfl ?_
  refine W.seq rfl ?_
  refine W.region rfl ?_
  refine Ops.y rfl rfl rfl hst.ctx (Y.moveS rfl) ?_
  refine Ops.y rfl rfl rfl hst.ctx (Y.lenS Try.underlying26 rfl) ?_
  refine Ops.yb rfl rfl rfl hst.ctx (Y.gtr rfl rfl) (fun b8 hb8 => ?_)
  refine Ops.done rfl ?_
  cases b8
  · replace hb8 := of_decide_eq_false hb8.symm
    refine W.condF rfl rfl ?_
    refine W.skip rfl ?_
    refine W.seq rfl ?_
    refine W.region rfl ?_
    refine Ops.y rfl rfl rfl hst.ctx (Y.assignI rfl) ?_
    refine Ops.done rfl ?_
    refine W.seq rfl ?_
    refine W.seq rfl ?_
    refine W.region rfl ?_
    refine Ops.y rfl rfl rfl hst.ctx (Y.moveS rfl) ?_
    refine Ops.y rfl rfl rfl hst.ctx (Y.lenS Try.underlying26 rfl) ?_
    refine Ops.y rfl rfl rfl hst.ctx (Y.moveI rfl) ?_
    refine Ops.done rfl ?_
    refine W.block rfl ?_
    refine W.loop (γ := Nat) [(0, .slice _ _ _), (9, .slice _ _ _), (10, .int _ _)] (fun k => [(3, .int .i64 (po l k)), (11, .int .i64 (k : Int))]) (fun k w => k ≤ l.length ∧ (∀ j, j < k → okAt l j) ∧ St w0 F0 w L G) (fun k => l.length - k) (0) rfl ⟨rfl, rfl, rfl, trivial⟩ ?_ ?_ ?_
    · exact ⟨rfl, rfl, trivial⟩
    · exact ⟨by omega, fun j hj => by omega, hst⟩
    · clear hst; rintro k j w1 ⟨hk, hall, hst⟩
      have hpo := po_range hall
      refine W.seq rfl ?_
      refine W.region rfl ?_
      refine Ops.yb rfl rfl rfl hst.ctx (Y.lss rfl rfl) (fun b12 hb12 => ?_)
      refine Ops.done rfl ?_
      refine W.seq rfl ?_
      cases b12
      · replace hb12 := of_decide_eq_false hb12.symm
        refine W.condF rfl rfl ?_
        refine W.exit rfl ?_
        refine W.seq rfl ?_
        refine W.region rfl ?_
        refine Ops.y rfl rfl rfl hst.ctx (Y.assignB rfl) ?_
        refine Ops.done rfl ?_
        refine W.ret rfl ?_
        refine ⟨_, Rslt.one Try.results14 rfl, ?_⟩
        refine ⟨_, rfl, ?_, (by first | exact hst | exact hst.drop | exact hst.drop.drop)⟩
        first | exact (tab_yes (by omega) (fun j hj => hall j (by omega))).symm | (refine (tab_no (k := k) (by omega) (fun h => ?_)).symm; unfold okAt at h; omega) | exact (tab_long (by omega)).symm
      · replace hb12 := of_decide_eq_true hb12.symm
        refine W.condT rfl rfl ?_
        refine W.skip rfl ?_
        refine W.seq rfl ?_
        refine W.block rfl ?_
        refine W.seq rfl ?_
        refine W.region rfl ?_
        refine Ops.y rfl rfl rfl hst.ctx (Y.moveI rfl) ?_
        have hk1 : k < l.length := by omega
        have hlp := hwf _ (lp_mem hk1)
        unfold In64 at hlp
        refine Ops.y rfl rfl rfl hst.ctx (Y.indexAddr Try.underlying26 Try.sizeOf45 rfl rfl ((hr.sl hst).ne (by rw [lcs_length]; omega)) (by omega)) ?_
        refine Ops.y rfl rfl rfl hst.ctx (Y.loadSlA Try.isAgg45 Try.sizeOf45 rfl hr (lcs_two hk1) rfl) ?_
        have hst0 := hst
        refine Ops.x rfl rfl rfl (X.allocA hst Try.zeroValue45 ?_)
        clear hst; intro p5 w5 hst
        refine Ops.y rfl rfl rfl hst.ctx (Y.assignI rfl) ?_
        refine Ops.x rfl rfl rfl (X.storeS hst 0 Try.sizeOf45 rfl rfl rfl rfl rfl (Nat.le_of_ble_eq_true rfl) rfl rfl ?_)
        clear hst; intro w6_5 hst
        try simp only [List.set_cons_zero, List.set_cons_succ, Nat.zero_add, Nat.reduceAdd, splice, List.take, List.drop, List.append_eq, List.nil_append, List.cons_append, List.length_cons, List.length_nil] at hst
        refine Ops.done rfl ?_
        refine W.seq rfl ?_
        refine W.seq rfl ?_
        refine W.region rfl ?_
        first
        | refine Ops.y rfl rfl rfl hst.ctx (Y.fieldAddr fa45_0 rfl) ?_
        | refine Ops.y rfl rfl rfl hst.ctx (Y.fieldAddrP fa45_0 rfl) ?_
        first
        | refine Ops.y rfl rfl rfl hst.ctx (Y.load 0 Try.isAgg3 rfl rfl rfl) ?_
        | refine Ops.y rfl rfl rfl hst.ctx (Y.loadSlF Try.isAgg3 rfl (hr.cons _) hp0) ?_
        refine Ops.yb rfl rfl rfl hst.ctx (Y.lss rfl rfl) (fun b18 hb18 => ?_)
        refine Ops.y rfl rfl rfl hst.ctx (Y.moveB rfl) ?_
        cases b18
        · replace hb18 := of_decide_eq_false hb18.symm
          first
          | refine Ops.y rfl rfl rfl hst.ctx (Y.fieldAddr fa45_0 rfl) ?_
          | refine Ops.y rfl rfl rfl hst.ctx (Y.fieldAddrP fa45_0 rfl) ?_
          first
          | refine Ops.y rfl rfl rfl hst.ctx (Y.load 0 Try.isAgg3 rfl rfl rfl) ?_
          | refine Ops.y rfl rfl rfl hst.ctx (Y.loadSlF Try.isAgg3 rfl (hr.cons _) hp0) ?_
          refine Ops.yb rfl rfl rfl hst.ctx (Y.gtr rfl rfl) (fun b22 hb22 => ?_)
          refine Ops.y rfl rfl rfl hst.ctx (Y.pick (.bool _) rfl rfl) ?_
          refine Ops.y rfl rfl rfl hst.ctx (Y.moveB rfl) ?_
          cases b22
          · replace hb22 := of_decide_eq_false hb22.symm
            first
            | refine Ops.y rfl rfl rfl hst.ctx (Y.fieldAddr fa45_1 rfl) ?_
            | refine Ops.y rfl rfl rfl hst.ctx (Y.fieldAddrP fa45_1 rfl) ?_
            first
            | refine Ops.y rfl rfl rfl hst.ctx (Y.load 0 Try.isAgg3 rfl rfl rfl) ?_
            | refine Ops.y rfl rfl rfl hst.ctx (Y.loadSlF Try.isAgg3 rfl (hr.cons _) hp0) ?_
            refine Ops.yb rfl rfl rfl hst.ctx (Y.lss rfl rfl) (fun b27 hb27 => ?_)
            refine Ops.y rfl rfl rfl hst.ctx (Y.pick (.bool _) rfl rfl) ?_
            refine Ops.y rfl rfl rfl hst.ctx (Y.moveB rfl) ?_
            cases b27
            · replace hb27 := of_decide_eq_false hb27.symm
              first
              | refine Ops.y rfl rfl rfl hst.ctx (Y.fieldAddr fa45_1 rfl) ?_
              | refine Ops.y rfl rfl rfl hst.ctx (Y.fieldAddrP fa45_1 rfl) ?_
              first
              | refine Ops.y rfl rfl rfl hst.ctx (Y.load 0 Try.isAgg3 rfl rfl rfl) ?_
              | refine Ops.y rfl rfl rfl hst.ctx (Y.loadSlF Try.isAgg3 rfl (hr.cons _) hp0) ?_
              refine Ops.yb rfl rfl rfl hst.ctx (Y.gtr rfl rfl) (fun b32 hb32 => ?_)
              refine Ops.y rfl rfl rfl hst.ctx (Y.pick (.bool _) rfl rfl) ?_
              refine Ops.done rfl ?_
              cases b32
              · replace hb32 := of_decide_eq_false hb32.symm
                refine W.condF rfl rfl ?_
                refine W.skip rfl ?_
                refine W.seq rfl ?_
                refine W.seq rfl ?_
                refine W.drawn rfl (by kernel_rfl) (Ctx _ _ (_) (_)) [] (.op 0 0 (.op 1 0 (.op 2 0 (.op 3 0 (.op 4 0 (.op 5 0 (.op 6 0 (.op 7 0 (.op 8 0 (.op 9 0 (.op 10 0 (.op 11 0 (.op 12 0 (.op 13 0 .nil)))))))))))))) rfl (by kernel_rfl) hst.drew.ctx ?_
                replace hst := hst.drew
                generalize World.drew _ = wd at hst ⊢
                refine Drw.y rfl rfl rfl hst.ctx (Y.moveI rfl) ?_
                refine Drw.yb rfl rfl rfl hst.ctx (Y.gtr rfl rfl) (fun b35 hb35 => ?_)
                refine Drw.y rfl rfl rfl hst.ctx (Y.moveB rfl) ?_
                cases b35
                · replace hb35 := of_decide_eq_false hb35.symm
                  refine Drw.no rfl rfl rfl hst.ctx ?_
                  refine Drw.no rfl rfl rfl hst.ctx ?_
                  refine Drw.no rfl rfl rfl hst.ctx ?_
                  refine Drw.no rfl rfl rfl hst.ctx ?_
                  refine Drw.no rfl rfl rfl hst.ctx ?_
                  refine Drw.no rfl rfl rfl hst.ctx ?_
                  refine Drw.no rfl rfl rfl hst.ctx ?_
                  refine Drw.no rfl rfl rfl hst.ctx ?_
                  refine Drw.no rfl rfl rfl hst.ctx ?_
                  refine Drw.no rfl rfl rfl hst.ctx ?_
                  refine Drw.y rfl rfl rfl hst.ctx (Y.pick (.bool _) rfl rfl) ?_
                  refine Drw.done ?_
                  refine W.condF rfl rfl ?_
                  refine W.skip rfl ?_
                  refine W.seq rfl ?_
                  refine W.seq rfl ?_
                  refine W.region rfl ?_
                  first
                  | refine Ops.y rfl rfl rfl hst.ctx (Y.fieldAddr fa45_1 rfl) ?_
                  | refine Ops.y rfl rfl rfl hst.ctx (Y.fieldAddrP fa45_1 rfl) ?_
                  first
                  | refine Ops.y rfl rfl rfl hst.ctx (Y.load 0 Try.isAgg3 rfl rfl rfl) ?_
                  | refine Ops.y rfl rfl rfl hst.ctx (Y.loadSlF Try.isAgg3 rfl (hr.cons _) hp0) ?_
                  refine Ops.y rfl rfl rfl hst.ctx (Y.moveI rfl) ?_
                  refine Ops.y rfl rfl rfl hst.ctx (Y.addI rfl rfl (by omega)) ?_
                  refine Ops.yb rfl rfl rfl hst.ctx (Y.neq rfl rfl) (fun b52 hb52 => ?_)
                  refine Ops.y rfl rfl rfl hst.ctx (Y.moveB rfl) ?_
                  cases b52
                  · replace hb52 := of_decide_eq_false hb52.symm
                    refine Ops.no rfl rfl rfl ?_
                    refine Ops.no rfl rfl rfl ?_
                    refine Ops.no rfl rfl rfl ?_
                    refine Ops.no rfl rfl rfl ?_
                    refine Ops.no rfl rfl rfl ?_
                    refine Ops.y rfl rfl rfl hst.ctx (Y.pick (.bool _) rfl rfl) ?_
                    refine Ops.done rfl ?_
                    refine W.condF rfl rfl ?_
                    refine W.skip rfl ?_
                    refine W.region rfl ?_
                    first
                    | refine Ops.y rfl rfl rfl hst.ctx (Y.fieldAddr fa45_1 rfl) ?_
                    | refine Ops.y rfl rfl rfl hst.ctx (Y.fieldAddrP fa45_1 rfl) ?_
                    first
                    | refine Ops.y rfl rfl rfl hst.ctx (Y.load 0 Try.isAgg3 rfl rfl rfl) ?_
                    | refine Ops.y rfl rfl rfl hst.ctx (Y.loadSlF Try.isAgg3 rfl (hr.cons _) hp0) ?_
                    refine Ops.y rfl rfl rfl hst.ctx (Y.assignI rfl) ?_
                    refine Ops.done rfl ?_
                    refine W.region rfl ?_
                    refine Ops.y rfl rfl rfl hst.ctx (Y.addI rfl rfl (by omega)) ?_
                    refine Ops.y rfl rfl rfl hst.ctx (Y.moveI rfl) ?_
                    refine Ops.done rfl ?_
                    exact ⟨k + 1, ⟨congrArg (Value.int .i64) (po_succ l k).symm, rfl, trivial⟩, ⟨rfl, rfl, rfl, trivial⟩, ⟨by omega, fun j hj => by rcases Nat.lt_succ_iff_lt_or_eq.1 hj with h | h; exact hall j h; subst h; unfold okAt; omega, (by first | exact hst | exact hst.drop | exact hst.drop.drop)⟩, by omega⟩
                  · replace hb52 := of_decide_eq_true hb52.symm
                    first
                    | refine Ops.y rfl rfl rfl hst.ctx (Y.fieldAddr fa45_1 rfl) ?_
                    | refine Ops.y rfl rfl rfl hst.ctx (Y.fieldAddrP fa45_1 rfl) ?_
                    first
                    | refine Ops.y rfl rfl rfl hst.ctx (Y.load 0 Try.isAgg3 rfl rfl rfl) ?_
                    | refine Ops.y rfl rfl rfl hst.ctx (Y.loadSlF Try.isAgg3 rfl (hr.cons _) hp0) ?_
                    refine Ops.y rfl rfl rfl hst.ctx (Y.moveI rfl) ?_
                    refine Ops.y rfl rfl rfl hst.ctx (Y.subI rfl rfl (by omega)) ?_
                    refine Ops.yb rfl rfl rfl hst.ctx (Y.neq rfl rfl) (fun b58 hb58 => ?_)
                    refine Ops.y rfl rfl rfl hst.ctx (Y.pick (.bool _) rfl rfl) ?_
                    refine Ops.done rfl ?_
                    cases b58
                    · replace hb58 := of_decide_eq_false hb58.symm
                      refine W.condF rfl rfl ?_
                      refine W.skip rfl ?_
                      refine W.region rfl ?_
                      first
                      | refine Ops.y rfl rfl rfl hst.ctx (Y.fieldAddr fa45_1 rfl) ?_
                      | refine Ops.y rfl rfl rfl hst.ctx (Y.fieldAddrP fa45_1 rfl) ?_
                      first
                      | refine Ops.y rfl rfl rfl hst.ctx (Y.load 0 Try.isAgg3 rfl rfl rfl) ?_
                      | refine Ops.y rfl rfl rfl hst.ctx (Y.loadSlF Try.isAgg3 rfl (hr.cons _) hp0) ?_
                      refine Ops.y rfl rfl rfl hst.ctx (Y.assignI rfl) ?_
                      refine Ops.done rfl ?_
                      refine W.region rfl ?_
                      refine Ops.y rfl rfl rfl hst.ctx (Y.addI rfl rfl (by omega)) ?_
                      refine Ops.y rfl rfl rfl hst.ctx (Y.moveI rfl) ?_
                      refine Ops.done rfl ?_
                      exact ⟨k + 1, ⟨congrArg (Value.int .i64) (po_succ l k).symm, rfl, trivial⟩, ⟨rfl, rfl, rfl, trivial⟩, ⟨by omega, fun j hj => by rcases Nat.lt_succ_iff_lt_or_eq.1 hj with h | h; exact hall j h; subst h; unfold okAt; omega, (by first | exact hst | exact hst.drop | exact hst.drop.drop)⟩, by omega⟩
                    · replace hb58 := of_decide_eq_true hb58.symm
                      refine W.condT rfl rfl ?_
                      refine W.seq rfl ?_
                      refine W.region rfl ?_
                      refine Ops.y rfl rfl rfl hst.ctx (Y.assignB rfl) ?_
                      refine Ops.done rfl ?_
                      refine W.ret rfl ?_
                      refine ⟨_, Rslt.one Try.results14 rfl, ?_⟩
                      refine ⟨_, rfl, ?_, (by first | exact hst | exact hst.drop | exact hst.drop.drop)⟩
                      first | exact (tab_yes (by omega) (fun j hj => hall j (by omega))).symm | (refine (tab_no (k := k) (by omega) (fun h => ?_)).symm; unfold okAt at h; omega) | exact (tab_long (by omega)).symm
                · replace hb35 := of_decide_eq_true hb35.symm
                  first
                  | refine Drw.y rfl rfl rfl hst.ctx (Y.fieldAddr fa45_0 rfl) ?_
                  | refine Drw.y rfl rfl rfl hst.ctx (Y.fieldAddrP fa45_0 rfl) ?_
                  first
                  | refine Drw.y rfl rfl rfl hst.ctx (Y.load 0 Try.isAgg3 rfl rfl rfl) ?_
                  | refine Drw.y rfl rfl rfl hst.ctx (Y.loadSlF Try.isAgg3 rfl (hr.cons _) hp0) ?_
                  refine Drw.y rfl rfl rfl hst.ctx (Y.moveS rfl) ?_
                  refine Drw.y rfl rfl rfl hst.ctx (Y.moveI rfl) ?_
                  refine Drw.y rfl rfl rfl hst.ctx (Y.subI rfl rfl (by omega)) ?_
                  have hp0 : (lcs l)[((k : Int) - 1).toNat * 2 + 0]? = some (i64 (lp l (k - 1)).1) := by have h := (lcs_get l (k - 1) (by omega)).1; rw [show ((k : Int) - 1).toNat = k - 1 by omega]; exact h
                  have hpm := hwf _ (lp_mem (show k - 1 < l.length by omega))
                  unfold In64 at hpm
                  have hpk := hall (k - 1) (by omega)
                  unfold okAt at hpk
                  refine Drw.y rfl rfl rfl hst.ctx (Y.indexAddr Try.underlying26 Try.sizeOf45 rfl rfl ((hr.sl hst0).ne (by rw [lcs_length]; omega)) (by omega)) ?_
                  first
                  | refine Drw.y rfl rfl rfl hst.ctx (Y.fieldAddr fa45_0 rfl) ?_
                  | refine Drw.y rfl rfl rfl hst.ctx (Y.fieldAddrP fa45_0 rfl) ?_
                  first
                  | refine Drw.y rfl rfl rfl hst.ctx (Y.load 0 Try.isAgg3 rfl rfl rfl) ?_
                  | refine Drw.y rfl rfl rfl hst.ctx (Y.loadSlF Try.isAgg3 rfl (hr.cons _) hp0) ?_
                  refine Drw.y rfl rfl rfl hst.ctx (Y.addI rfl rfl (by omega)) ?_
                  refine Drw.yb rfl rfl rfl hst.ctx (Y.lss rfl rfl) (fun b46 hb46 => ?_)
                  refine Drw.y rfl rfl rfl hst.ctx (Y.pick (.bool _) rfl rfl) ?_
                  refine Drw.done ?_
                  cases b46
                  · replace hb46 := of_decide_eq_false hb46.symm
                    refine W.condF rfl rfl ?_
                    refine W.skip rfl ?_
                    refine W.seq rfl ?_
                    refine W.seq rfl ?_
                    refine W.region rfl ?_
                    first
                    | refine Ops.y rfl rfl rfl hst.ctx (Y.fieldAddr fa45_1 rfl) ?_
                    | refine Ops.y rfl rfl rfl hst.ctx (Y.fieldAddrP fa45_1 rfl) ?_
                    first
                    | refine Ops.y rfl rfl rfl hst.ctx (Y.load 0 Try.isAgg3 rfl rfl rfl) ?_
                    | refine Ops.y rfl rfl rfl hst.ctx (Y.loadSlF Try.isAgg3 rfl (hr.cons _) hp0) ?_
                    refine Ops.y rfl rfl rfl hst.ctx (Y.moveI rfl) ?_
                    refine Ops.y rfl rfl rfl hst.ctx (Y.addI rfl rfl (by omega)) ?_
                    refine Ops.yb rfl rfl rfl hst.ctx (Y.neq rfl rfl) (fun b52 hb52 => ?_)
                    refine Ops.y rfl rfl rfl hst.ctx (Y.moveB rfl) ?_
                    cases b52
                    · replace hb52 := of_decide_eq_false hb52.symm
                      refine Ops.no rfl rfl rfl ?_
                      refine Ops.no rfl rfl rfl ?_
                      refine Ops.no rfl rfl rfl ?_
                      refine Ops.no rfl rfl rfl ?_
                      refine Ops.no rfl rfl rfl ?_
                      refine Ops.y rfl rfl rfl hst.ctx (Y.pick (.bool _) rfl rfl) ?_
                      refine Ops.done rfl ?_
                      refine W.condF rfl rfl ?_
                      refine W.skip rfl ?_
                      refine W.region rfl ?_
                      first
                      | refine Ops.y rfl rfl rfl hst.ctx (Y.fieldAddr fa45_1 rfl) ?_
                      | refine Ops.y rfl rfl rfl hst.ctx (Y.fieldAddrP fa45_1 rfl) ?_
                      first
                      | refine Ops.y rfl rfl rfl hst.ctx (Y.load 0 Try.isAgg3 rfl rfl rfl) ?_
                      | refine Ops.y rfl rfl rfl hst.ctx (Y.loadSlF Try.isAgg3 rfl (hr.cons _) hp0) ?_
                      refine Ops.y rfl rfl rfl hst.ctx (Y.assignI rfl) ?_
                      refine Ops.done rfl ?_
                      refine W.region rfl ?_
                      refine Ops.y rfl rfl rfl hst.ctx (Y.addI rfl rfl (by omega)) ?_
                      refine Ops.y rfl rfl rfl hst.ctx (Y.moveI rfl) ?_
                      refine Ops.done rfl ?_
                      exact ⟨k + 1, ⟨congrArg (Value.int .i64) (po_succ l k).symm, rfl, trivial⟩, ⟨rfl, rfl, rfl, trivial⟩, ⟨by omega, fun j hj => by rcases Nat.lt_succ_iff_lt_or_eq.1 hj with h | h; exact hall j h; subst h; unfold okAt; omega, (by first | exact hst | exact hst.drop | exact hst.drop.drop)⟩, by omega⟩
                    · replace hb52 := of_decide_eq_true hb52.symm
                      first
                      | refine Ops.y rfl rfl rfl hst.ctx (Y.fieldAddr fa45_1 rfl) ?_
                      | refine Ops.y rfl rfl rfl hst.ctx (Y.fieldAddrP fa45_1 rfl) ?_
                      first
                      | refine Ops.y rfl rfl rfl hst.ctx (Y.load 0 Try.isAgg3 rfl rfl rfl) ?_
                      | refine Ops.y rfl rfl rfl hst.ctx (Y.loadSlF Try.isAgg3 rfl (hr.cons _) hp0) ?_
                      refine Ops.y rfl rfl rfl hst.ctx (Y.moveI rfl) ?_
                      refine Ops.y rfl rfl rfl hst.ctx (Y.subI rfl rfl (by omega)) ?_
                      refine Ops.yb rfl rfl rfl hst.ctx (Y.neq rfl rfl) (fun b58 hb58 => ?_)
                      refine Ops.y rfl rfl rfl hst.ctx (Y.pick (.bool _) rfl rfl) ?_
                      refine Ops.done rfl ?_
                      cases b58
                      · replace hb58 := of_decide_eq_false hb58.symm
                        refine W.condF rfl rfl ?_
                        refine W.skip rfl ?_
                        refine W.region rfl ?_
                        first
                        | refine Ops.y rfl rfl rfl hst.ctx (Y.fieldAddr fa45_1 rfl) ?_
                        | refine Ops.y rfl rfl rfl hst.ctx (Y.fieldAddrP fa45_1 rfl) ?_
                        first
                        | refine Ops.y rfl rfl rfl hst.ctx (Y.load 0 Try.isAgg3 rfl rfl rfl) ?_
                        | refine Ops.y rfl rfl rfl hst.ctx (Y.loadSlF Try.isAgg3 rfl (hr.cons _) hp0) ?_
                        refine Ops.y rfl rfl rfl hst.ctx (Y.assignI rfl) ?_
                        refine Ops.done rfl ?_
                        refine W.region rfl ?_
                        refine Ops.y rfl rfl rfl hst.ctx (Y.addI rfl rfl (by omega)) ?_
                        refine Ops.y rfl rfl rfl hst.ctx (Y.moveI rfl) ?_
                        refine Ops.done rfl ?_
                        exact ⟨k + 1, ⟨congrArg (Value.int .i64) (po_succ l k).symm, rfl, trivial⟩, ⟨rfl, rfl, rfl, trivial⟩, ⟨by omega, fun j hj => by rcases Nat.lt_succ_iff_lt_or_eq.1 hj with h | h; exact hall j h; subst h; unfold okAt; omega, (by first | exact hst | exact hst.drop | exact hst.drop.drop)⟩, by omega⟩
                      · replace hb58 := of_decide_eq_true hb58.symm
                        refine W.condT rfl rfl ?_
                        refine W.seq rfl ?_
                        refine W.region rfl ?_
                        refine Ops.y rfl rfl rfl hst.ctx (Y.assignB rfl) ?_
                        refine Ops.done rfl ?_
                        refine W.ret rfl ?_
                        refine ⟨_, Rslt.one Try.results14 rfl, ?_⟩
                        refine ⟨_, rfl, ?_, (by first | exact hst | exact hst.drop | exact hst.drop.drop)⟩
                        first | exact (tab_yes (by omega) (fun j hj => hall j (by omega))).symm | (refine (tab_no (k := k) (by omega) (fun h => ?_)).symm; unfold okAt at h; omega) | exact (tab_long (by omega)).symm
                  · replace hb46 := of_decide_eq_true hb46.symm
                    refine W.condT rfl rfl ?_
                    refine W.seq rfl ?_
                    refine W.region rfl ?_
                    refine Ops.y rfl rfl rfl hst.ctx (Y.assignB rfl) ?_
                    refine Ops.done rfl ?_
                    refine W.ret rfl ?_
                    refine ⟨_, Rslt.one Try.results14 rfl, ?_⟩
                    refine ⟨_, rfl, ?_, (by first | exact hst | exact hst.drop | exact hst.drop.drop)⟩
                    first | exact (tab_yes (by omega) (fun j hj => hall j (by omega))).symm | (refine (tab_no (k := k) (by omega) (fun h => ?_)).symm; unfold okAt at h; omega) | exact (tab_long (by omega)).symm
              · replace hb32 := of_decide_eq_true hb32.symm
                refine W.condT rfl rfl ?_
                refine W.seq rfl ?_
                refine W.region rfl ?_
                refine Ops.y rfl rfl rfl hst.ctx (Y.assignB rfl) ?_
                refine Ops.done rfl ?_
                refine W.ret rfl ?_
                refine ⟨_, Rslt.one Try.results14 rfl, ?_⟩
                refine ⟨_, rfl, ?_, (by first | exact hst | exact hst.drop | exact hst.drop.drop)⟩
                first | exact (tab_yes (by omega) (fun j hj => hall j (by omega))).symm | (refine (tab_no (k := k) (by omega) (fun h => ?_)).symm; unfold okAt at h; omega) | exact (tab_long (by omega)).symm
            · replace hb27 := of_decide_eq_true hb27.symm
              refine Ops.no rfl rfl rfl ?_
              refine Ops.no rfl rfl rfl ?_
              refine Ops.no rfl rfl rfl ?_
              refine Ops.y rfl rfl rfl hst.ctx (Y.pick (.bool _) rfl rfl) ?_
              refine Ops.done rfl ?_
              refine W.condT rfl rfl ?_
              refine W.seq rfl ?_
              refine W.region rfl ?_
              refine Ops.y rfl rfl rfl hst.ctx (Y.assignB rfl) ?_
              refine Ops.done rfl ?_
              refine W.ret rfl ?_
              refine ⟨_, Rslt.one Try.results14 rfl, ?_⟩
              refine ⟨_, rfl, ?_, (by first | exact hst | exact hst.drop | exact hst.drop.drop)⟩
              first | exact (tab_yes (by omega) (fun j hj => hall j (by omega))).symm | (refine (tab_no (k := k) (by omega) (fun h => ?_)).symm; unfold okAt at h; omega) | exact (tab_long (by omega)).symm
          · replace hb22 := of_decide_eq_true hb22.symm
            refine Ops.no rfl rfl rfl ?_
            refine Ops.no rfl rfl rfl ?_
            refine Ops.no rfl rfl rfl ?_
            refine Ops.y rfl rfl rfl hst.ctx (Y.pick (.bool _) rfl rfl) ?_
            refine Ops.y rfl rfl rfl hst.ctx (Y.moveB rfl) ?_
            refine Ops.no rfl rfl rfl ?_
            refine Ops.no rfl rfl rfl ?_
            refine Ops.no rfl rfl rfl ?_
            refine Ops.y rfl rfl rfl hst.ctx (Y.pick (.bool _) rfl rfl) ?_
            refine Ops.done rfl ?_
            refine W.condT rfl rfl ?_
            refine W.seq rfl ?_
            refine W.region rfl ?_
            refine Ops.y rfl rfl rfl hst.ctx (Y.assignB rfl) ?_
            refine Ops.done rfl ?_
            refine W.ret rfl ?_
            refine ⟨_, Rslt.one Try.results14 rfl, ?_⟩
            refine ⟨_, rfl, ?_, (by first | exact hst | exact hst.drop | exact hst.drop.drop)⟩
            first | exact (tab_yes (by omega) (fun j hj => hall j (by omega))).symm | (refine (tab_no (k := k) (by omega) (fun h => ?_)).symm; unfold okAt at h; omega) | exact (tab_long (by omega)).symm
        · replace hb18 := of_decide_eq_true hb18.symm
          refine Ops.no rfl rfl rfl ?_
          refine Ops.no rfl rfl rfl ?_
          refine Ops.no rfl rfl rfl ?_
          refine Ops.y rfl rfl rfl hst.ctx (Y.pick (.bool _) rfl rfl) ?_
          refine Ops.y rfl rfl rfl hst.ctx (Y.moveB rfl) ?_
          refine Ops.no rfl rfl rfl ?_
          refine Ops.no rfl rfl rfl ?_
          refine Ops.no rfl rfl rfl ?_
          refine Ops.y rfl rfl rfl hst.ctx (Y.pick (.bool _) rfl rfl) ?_
          refine Ops.y rfl rfl rfl hst.ctx (Y.moveB rfl) ?_
          refine Ops.no rfl rfl rfl ?_
          refine Ops.no rfl rfl rfl ?_
          refine Ops.no rfl rfl rfl ?_
          refine Ops.y rfl rfl rfl hst.ctx (Y.pick (.bool _) rfl rfl) ?_
          refine Ops.done rfl ?_
          refine W.condT rfl rfl ?_
          refine W.seq rfl ?_
          refine W.region rfl ?_
          refine Ops.y rfl rfl rfl hst.ctx (Y.assignB rfl) ?_
          refine Ops.done rfl ?_
          refine W.ret rfl ?_
          refine ⟨_, Rslt.one Try.results14 rfl, ?_⟩
          refine ⟨_, rfl, ?_, (by first | exact hst | exact hst.drop | exact hst.drop.drop)⟩
          first | exact (tab_yes (by omega) (fun j hj => hall j (by omega))).symm | (refine (tab_no (k := k) (by omega) (fun h => ?_)).symm; unfold okAt at h; omega) | exact (tab_long (by omega)).symm
  · replace hb8 := of_decide_eq_true hb8.symm
    refine W.condT rfl rfl ?_
    refine W.seq rfl ?_
    refine W.region rfl ?_
    refine Ops.y rfl rfl rfl hst.ctx (Y.assignB rfl) ?_
    refine Ops.done rfl ?_
    refine W.ret rfl ?_
    refine ⟨_, Rslt.one Try.results14 rfl, ?_⟩
    refine ⟨_, rfl, ?_, (by first | exact hst | exact hst.drop | exact hst.drop.drop)⟩
    first | exact (tab_yes (by omega) (fun j hj => hall j (by omega))).symm | (refine (tab_no (k := k) (by omega) (fun h => ?_)).symm; unfold okAt at h; omega) | exact (tab_long (by omega)).symm

set_option maxHeartbeats 8000000 in
theorem rgood_any (kind from_ slo shi held hops : Int) (good ref : Bool) (elo ehi pulse time num : Int) (tab : List (Int × Int)) (A : Option Addr) (cap : Nat) (w0 w : World) (F0 : List Nat) (L G : List Res) (hst : St w0 F0 w L G)
    (hr : Rds L G (.slice A tab.length cap) tab.length (lcs tab)) (hlen : tab.length ≤ 9223372036854775807) (hwf : ∀ x ∈ tab, In64 x.1 ∧ In64 x.2) :
    Calls Try.prog 12 #[.agg #[.int .i64 kind, .int .i64 from_, .int .i64 slo, .int .i64 shi, .int .i64 held, .int .i64 hops, .bool good, .bool ref, .int .i64 elo, .int .i64 ehi, .int .i64 pulse, .int .i64 time, .int .i64 num, .slice A tab.length cap]] w
      fun e w' => ∃ b, e = .returned (.bool b) ∧ b = decide (HdOk kind from_ slo shi held hops elo ehi pulse time num ∧ TabOk tab) ∧ St w0 F0 w' L G := by
  refine W.func Try.func12 rfl Try.ntmps12 rfl ?_
  refine W.seq rfl ?_
  refine W.region rfl ?_
  refine Ops.x rfl rfl rfl (X.boxA hst rfl ?_)
  clear hst; intro p1 w1 hst
  refine Ops.y rfl rfl rfl hst.ctx (Y.assignB rfl) ?_
  refine Ops.done rfl ?_
  refine W.seq rfl ?_
  refine W.seq rfl ?_
  refine W.region rfl ?_
  first
  | refine Ops.y rfl rfl rfl hst.ctx (Y.fieldAddr fa28_0 rfl) ?_
  | refine Ops.y rfl rfl rfl hst.ctx (Y.fieldAddrP fa28_0 rfl) ?_
  refine Ops.y rfl rfl rfl hst.ctx (Y.load 0 Try.isAgg3 rfl rfl rfl) ?_
  refine Ops.yb rfl rfl rfl hst.ctx (Y.neq rfl rfl) (fun b5 hb5 => ?_)
  refine Ops.y rfl rfl rfl hst.ctx (Y.moveB rfl) ?_
  cases b5
  · replace hb5 := of_decide_eq_false hb5.symm
    refine Ops.no rfl rfl rfl ?_
    refine Ops.no rfl rfl rfl ?_
    refine Ops.no rfl rfl rfl ?_
    refine Ops.y rfl rfl rfl hst.ctx (Y.pick (.bool _) rfl rfl) ?_
    refine Ops.y rfl rfl rfl hst.ctx (Y.moveB rfl) ?_
    first
    | refine Ops.y rfl rfl rfl hst.ctx (Y.fieldAddr fa28_1 rfl) ?_
    | refine Ops.y rfl rfl rfl hst.ctx (Y.fieldAddrP fa28_1 rfl) ?_
    refine Ops.y rfl rfl rfl hst.ctx (Y.load 0 Try.isAgg3 rfl rfl rfl) ?_
    refine Ops.yb rfl rfl rfl hst.ctx (Y.lss rfl rfl) (fun b14 hb14 => ?_)
    refine Ops.y rfl rfl rfl hst.ctx (Y.pick (.bool _) rfl rfl) ?_
    refine Ops.y rfl rfl rfl hst.ctx (Y.moveB rfl) ?_
    cases b14
    · replace hb14 := of_decide_eq_false hb14.symm
      first
      | refine Ops.y rfl rfl rfl hst.ctx (Y.fieldAddr fa28_1 rfl) ?_
      | refine Ops.y rfl rfl rfl hst.ctx (Y.fieldAddrP fa28_1 rfl) ?_
      refine Ops.y rfl rfl rfl hst.ctx (Y.load 0 Try.isAgg3 rfl rfl rfl) ?_
      refine Ops.yb rfl rfl rfl hst.ctx (Y.gtr rfl rfl) (fun b19 hb19 => ?_)
      refine Ops.y rfl rfl rfl hst.ctx (Y.pick (.bool _) rfl rfl) ?_
      refine Ops.y rfl rfl rfl hst.ctx (Y.moveB rfl) ?_
      cases b19
      · replace hb19 := of_decide_eq_false hb19.symm
        first
        | refine Ops.y rfl rfl rfl hst.ctx (Y.fieldAddr fa28_3 rfl) ?_
        | refine Ops.y rfl rfl rfl hst.ctx (Y.fieldAddrP fa28_3 rfl) ?_
        refine Ops.y rfl rfl rfl hst.ctx (Y.load 0 Try.isAgg3 rfl rfl rfl) ?_
        refine Ops.yb rfl rfl rfl hst.ctx (Y.lss rfl rfl) (fun b24 hb24 => ?_)
        refine Ops.y rfl rfl rfl hst.ctx (Y.pick (.bool _) rfl rfl) ?_
        refine Ops.y rfl rfl rfl hst.ctx (Y.moveB rfl) ?_
        cases b24
        · replace hb24 := of_decide_eq_false hb24.symm
          first
          | refine Ops.y rfl rfl rfl hst.ctx (Y.fieldAddr fa28_3 rfl) ?_
          | refine Ops.y rfl rfl rfl hst.ctx (Y.fieldAddrP fa28_3 rfl) ?_
          refine Ops.y rfl rfl rfl hst.ctx (Y.load 0 Try.isAgg3 rfl rfl rfl) ?_
          refine Ops.yb rfl rfl rfl hst.ctx (Y.gtr rfl rfl) (fun b29 hb29 => ?_)
          refine Ops.y rfl rfl rfl hst.ctx (Y.pick (.bool _) rfl rfl) ?_
          refine Ops.y rfl rfl rfl hst.ctx (Y.moveB rfl) ?_
          cases b29
          · replace hb29 := of_decide_eq_false hb29.symm
            first
            | refine Ops.y rfl rfl rfl hst.ctx (Y.fieldAddr fa28_4 rfl) ?_
            | refine Ops.y rfl rfl rfl hst.ctx (Y.fieldAddrP fa28_4 rfl) ?_
            refine Ops.y rfl rfl rfl hst.ctx (Y.load 0 Try.isAgg3 rfl rfl rfl) ?_
            refine Ops.yb rfl rfl rfl hst.ctx (Y.lss rfl rfl) (fun b34 hb34 => ?_)
            refine Ops.y rfl rfl rfl hst.ctx (Y.pick (.bool _) rfl rfl) ?_
            refine Ops.y rfl rfl rfl hst.ctx (Y.moveB rfl) ?_
            cases b34
            · replace hb34 := of_decide_eq_false hb34.symm
              first
              | refine Ops.y rfl rfl rfl hst.ctx (Y.fieldAddr fa28_4 rfl) ?_
              | refine Ops.y rfl rfl rfl hst.ctx (Y.fieldAddrP fa28_4 rfl) ?_
              refine Ops.y rfl rfl rfl hst.ctx (Y.load 0 Try.isAgg3 rfl rfl rfl) ?_
              refine Ops.yb rfl rfl rfl hst.ctx (Y.gtr rfl rfl) (fun b39 hb39 => ?_)
              refine Ops.y rfl rfl rfl hst.ctx (Y.pick (.bool _) rfl rfl) ?_
              refine Ops.done rfl ?_
              cases b39
              · replace hb39 := of_decide_eq_false hb39.symm
                refine W.condF rfl rfl ?_
                refine W.skip rfl ?_
                refine W.seq rfl ?_
                refine W.seq rfl ?_
                refine W.region rfl ?_
                first
                | refine Ops.y rfl rfl rfl hst.ctx (Y.fieldAddr fa28_2 rfl) ?_
                | refine Ops.y rfl rfl rfl hst.ctx (Y.fieldAddrP fa28_2 rfl) ?_
                first
                | refine Ops.y rfl rfl rfl hst.ctx (Y.fieldAddr fa23_0 rfl) ?_
                | refine Ops.y rfl rfl rfl hst.ctx (Y.fieldAddrP fa23_0 rfl) ?_
                refine Ops.y rfl rfl rfl hst.ctx (Y.load 0 Try.isAgg3 rfl rfl rfl) ?_
                refine Ops.x rfl rfl rfl (X.call cf23 rfl ?_)
                refine use_call (far_any _ _) rfl ?_; rintro e w' ⟨b44, rfl, hb44, rfl⟩; refine ⟨_, rfl, ?_⟩
                refine Ops.y rfl rfl rfl hst.ctx (Y.moveB rfl) ?_
                cases b44
                · replace hb44 := of_decide_eq_false hb44.symm
                  first
                  | refine Ops.y rfl rfl rfl hst.ctx (Y.fieldAddr fa28_2 rfl) ?_
                  | refine Ops.y rfl rfl rfl hst.ctx (Y.fieldAddrP fa28_2 rfl) ?_
                  first
                  | refine Ops.y rfl rfl rfl hst.ctx (Y.fieldAddr fa23_1 rfl) ?_
                  | refine Ops.y rfl rfl rfl hst.ctx (Y.fieldAddrP fa23_1 rfl) ?_
                  refine Ops.y rfl rfl rfl hst.ctx (Y.load 0 Try.isAgg3 rfl rfl rfl) ?_
                  refine Ops.x rfl rfl rfl (X.call cf23 rfl ?_)
                  refine use_call (far_any _ _) rfl ?_; rintro e w' ⟨b49, rfl, hb49, rfl⟩; refine ⟨_, rfl, ?_⟩
                  refine Ops.y rfl rfl rfl hst.ctx (Y.pick (.bool _) rfl rfl) ?_
                  refine Ops.y rfl rfl rfl hst.ctx (Y.moveB rfl) ?_
                  cases b49
                  · replace hb49 := of_decide_eq_false hb49.symm
                    first
                    | refine Ops.y rfl rfl rfl hst.ctx (Y.fieldAddr fa28_7 rfl) ?_
                    | refine Ops.y rfl rfl rfl hst.ctx (Y.fieldAddrP fa28_7 rfl) ?_
                    first
                    | refine Ops.y rfl rfl rfl hst.ctx (Y.fieldAddr fa23_0 rfl) ?_
                    | refine Ops.y rfl rfl rfl hst.ctx (Y.fieldAddrP fa23_0 rfl) ?_
                    refine Ops.y rfl rfl rfl hst.ctx (Y.load 0 Try.isAgg3 rfl rfl rfl) ?_
                    refine Ops.x rfl rfl rfl (X.call cf23 rfl ?_)
                    refine use_call (far_any _ _) rfl ?_; rintro e w' ⟨b55, rfl, hb55, rfl⟩; refine ⟨_, rfl, ?_⟩
                    refine Ops.y rfl rfl rfl hst.ctx (Y.pick (.bool _) rfl rfl) ?_
                    refine Ops.y rfl rfl rfl hst.ctx (Y.moveB rfl) ?_
                    cases b55
                    · replace hb55 := of_decide_eq_false hb55.symm
                      first
                      | refine Ops.y rfl rfl rfl hst.ctx (Y.fieldAddr fa28_7 rfl) ?_
                      | refine Ops.y rfl rfl rfl hst.ctx (Y.fieldAddrP fa28_7 rfl) ?_
                      first
                      | refine Ops.y rfl rfl rfl hst.ctx (Y.fieldAddr fa23_1 rfl) ?_
                      | refine Ops.y rfl rfl rfl hst.ctx (Y.fieldAddrP fa23_1 rfl) ?_
                      refine Ops.y rfl rfl rfl hst.ctx (Y.load 0 Try.isAgg3 rfl rfl rfl) ?_
                      refine Ops.x rfl rfl rfl (X.call cf23 rfl ?_)
                      refine use_call (far_any _ _) rfl ?_; rintro e w' ⟨b61, rfl, hb61, rfl⟩; refine ⟨_, rfl, ?_⟩
                      refine Ops.y rfl rfl rfl hst.ctx (Y.pick (.bool _) rfl rfl) ?_
                      refine Ops.y rfl rfl rfl hst.ctx (Y.moveB rfl) ?_
                      cases b61
                      · replace hb61 := of_decide_eq_false hb61.symm
                        first
                        | refine Ops.y rfl rfl rfl hst.ctx (Y.fieldAddr fa28_8 rfl) ?_
                        | refine Ops.y rfl rfl rfl hst.ctx (Y.fieldAddrP fa28_8 rfl) ?_
                        refine Ops.y rfl rfl rfl hst.ctx (Y.load 0 Try.isAgg3 rfl rfl rfl) ?_
                        refine Ops.x rfl rfl rfl (X.call cf23 rfl ?_)
                        refine use_call (far_any _ _) rfl ?_; rintro e w' ⟨b66, rfl, hb66, rfl⟩; refine ⟨_, rfl, ?_⟩
                        refine Ops.y rfl rfl rfl hst.ctx (Y.pick (.bool _) rfl rfl) ?_
                        refine Ops.y rfl rfl rfl hst.ctx (Y.moveB rfl) ?_
                        cases b66
                        · replace hb66 := of_decide_eq_false hb66.symm
                          first
                          | refine Ops.y rfl rfl rfl hst.ctx (Y.fieldAddr fa28_9 rfl) ?_
                          | refine Ops.y rfl rfl rfl hst.ctx (Y.fieldAddrP fa28_9 rfl) ?_
                          first
                          | refine Ops.y rfl rfl rfl hst.ctx (Y.fieldAddr fa25_0 rfl) ?_
                          | refine Ops.y rfl rfl rfl hst.ctx (Y.fieldAddrP fa25_0 rfl) ?_
                          refine Ops.y rfl rfl rfl hst.ctx (Y.load 0 Try.isAgg3 rfl rfl rfl) ?_
                          refine Ops.x rfl rfl rfl (X.call cf23 rfl ?_)
                          refine use_call (far_any _ _) rfl ?_; rintro e w' ⟨b72, rfl, hb72, rfl⟩; refine ⟨_, rfl, ?_⟩
                          refine Ops.y rfl rfl rfl hst.ctx (Y.pick (.bool _) rfl rfl) ?_
                          refine Ops.y rfl rfl rfl hst.ctx (Y.moveB rfl) ?_
                          cases b72
                          · replace hb72 := of_decide_eq_false hb72.symm
                            first
                            | refine Ops.y rfl rfl rfl hst.ctx (Y.fieldAddr fa28_9 rfl) ?_
                            | refine Ops.y rfl rfl rfl hst.ctx (Y.fieldAddrP fa28_9 rfl) ?_
                            first
                            | refine Ops.y rfl rfl rfl hst.ctx (Y.fieldAddr fa25_1 rfl) ?_
                            | refine Ops.y rfl rfl rfl hst.ctx (Y.fieldAddrP fa25_1 rfl) ?_
                            refine Ops.y rfl rfl rfl hst.ctx (Y.load 0 Try.isAgg3 rfl rfl rfl) ?_
                            refine Ops.yb rfl rfl rfl hst.ctx (Y.lss rfl rfl) (fun b78 hb78 => ?_)
                            refine Ops.y rfl rfl rfl hst.ctx (Y.pick (.bool _) rfl rfl) ?_
                            refine Ops.y rfl rfl rfl hst.ctx (Y.moveB rfl) ?_
                            cases b78
                            · replace hb78 := of_decide_eq_false hb78.symm
                              first
                              | refine Ops.y rfl rfl rfl hst.ctx (Y.fieldAddr fa28_9 rfl) ?_
                              | refine Ops.y rfl rfl rfl hst.ctx (Y.fieldAddrP fa28_9 rfl) ?_
                              first
                              | refine Ops.y rfl rfl rfl hst.ctx (Y.fieldAddr fa25_1 rfl) ?_
                              | refine Ops.y rfl rfl rfl hst.ctx (Y.fieldAddrP fa25_1 rfl) ?_
                              refine Ops.y rfl rfl rfl hst.ctx (Y.load 0 Try.isAgg3 rfl rfl rfl) ?_
                              refine Ops.yb rfl rfl rfl hst.ctx (Y.gtr rfl rfl) (fun b84 hb84 => ?_)
                              refine Ops.y rfl rfl rfl hst.ctx (Y.pick (.bool _) rfl rfl) ?_
                              refine Ops.done rfl ?_
                              cases b84
                              · replace hb84 := of_decide_eq_false hb84.symm
                                refine W.condF rfl rfl ?_
                                refine W.skip rfl ?_
                                refine W.seq rfl ?_
                                refine W.region rfl ?_
                                first
                                | refine Ops.y rfl rfl rfl hst.ctx (Y.fieldAddr fa28_10 rfl) ?_
                                | refine Ops.y rfl rfl rfl hst.ctx (Y.fieldAddrP fa28_10 rfl) ?_
                                refine Ops.y rfl rfl rfl hst.ctx (Y.load 0 Try.isAgg26 rfl rfl rfl) ?_
                                refine Ops.x rfl rfl rfl (X.call cf14 rfl ?_)
                                refine use_call (rtable_b _ tab _ _ _ _ _ hst (hr.cons _) hlen hwf) rfl ?_; rintro e w1 ⟨b88, rfl, hb88, hst⟩; refine ⟨_, rfl, ?_⟩
                                refine Ops.y rfl rfl rfl hst.ctx (Y.assignB rfl) ?_
                                refine Ops.done rfl ?_
                                refine W.ret rfl ?_
                                cases b88
                                · replace hb88 := of_decide_eq_false hb88.symm
                                  refine ⟨_, Rslt.one Try.results12 rfl, ?_⟩
                                  refine ⟨_, rfl, ?_, hst.drop⟩
                                  first | exact (decide_eq_true ⟨by unfold HdOk Far; omega, by assumption⟩).symm | exact (decide_eq_false (fun h => by unfold HdOk Far at h; omega)).symm | exact (decide_eq_false (fun h => by have := h.2; contradiction)).symm
                                · replace hb88 := of_decide_eq_true hb88.symm
                                  refine ⟨_, Rslt.one Try.results12 rfl, ?_⟩
                                  refine ⟨_, rfl, ?_, hst.drop⟩
                                  first | exact (decide_eq_true ⟨by unfold HdOk Far; omega, by assumption⟩).symm | exact (decide_eq_false (fun h => by unfold HdOk Far at h; omega)).symm | exact (decide_eq_false (fun h => by have := h.2; contradiction)).symm
                              · replace hb84 := of_decide_eq_true hb84.symm
                                refine W.condT rfl rfl ?_
                                refine W.seq rfl ?_
                                refine W.region rfl ?_
                                refine Ops.y rfl rfl rfl hst.ctx (Y.assignB rfl) ?_
                                refine Ops.done rfl ?_
                                refine W.ret rfl ?_
                                refine ⟨_, Rslt.one Try.results12 rfl, ?_⟩
                                refine ⟨_, rfl, ?_, hst.drop⟩
                                first | exact (decide_eq_true ⟨by unfold HdOk Far; omega, by assumption⟩).symm | exact (decide_eq_false (fun h => by unfold HdOk Far at h; omega)).symm | exact (decide_eq_false (fun h => by have := h.2; contradiction)).symm
                            · replace hb78 := of_decide_eq_true hb78.symm
                              refine Ops.no rfl rfl rfl ?_
                              refine Ops.no rfl rfl rfl ?_
                              refine Ops.no rfl rfl rfl ?_
                              refine Ops.no rfl rfl rfl ?_
                              refine Ops.y rfl rfl rfl hst.ctx (Y.pick (.bool _) rfl rfl) ?_
                              refine Ops.done rfl ?_
                              refine W.condT rfl rfl ?_
                              refine W.seq rfl ?_
                              refine W.region rfl ?_
                              refine Ops.y rfl rfl rfl hst.ctx (Y.assignB rfl) ?_
                              refine Ops.done rfl ?_
                              refine W.ret rfl ?_
                              refine ⟨_, Rslt.one Try.results12 rfl, ?_⟩
                              refine ⟨_, rfl, ?_, hst.drop⟩
                              first | exact (decide_eq_true ⟨by unfold HdOk Far; omega, by assumption⟩).symm | exact (decide_eq_false (fun h => by unfold HdOk Far at h; omega)).symm | exact (decide_eq_false (fun h => by have := h.2; contradiction)).symm
                          · replace hb72 := of_decide_eq_true hb72.symm
                            refine Ops.no rfl rfl rfl ?_
                            refine Ops.no rfl rfl rfl ?_
                            refine Ops.no rfl rfl rfl ?_
                            refine Ops.no rfl rfl rfl ?_
                            refine Ops.y rfl rfl rfl hst.ctx (Y.pick (.bool _) rfl rfl) ?_
                            refine Ops.y rfl rfl rfl hst.ctx (Y.moveB rfl) ?_
                            refine Ops.no rfl rfl rfl ?_
                            refine Ops.no rfl rfl rfl ?_
                            refine Ops.no rfl rfl rfl ?_
                            refine Ops.no rfl rfl rfl ?_
                            refine Ops.y rfl rfl rfl hst.ctx (Y.pick (.bool _) rfl rfl) ?_
                            refine Ops.done rfl ?_
                            refine W.condT rfl rfl ?_
                            refine W.seq rfl ?_
                            refine W.region rfl ?_
                            refine Ops.y rfl rfl rfl hst.ctx (Y.assignB rfl) ?_
                            refine Ops.done rfl ?_
                            refine W.ret rfl ?_
                            refine ⟨_, Rslt.one Try.results12 rfl, ?_⟩
                            refine ⟨_, rfl, ?_, hst.drop⟩
                            first | exact (decide_eq_true ⟨by unfold HdOk Far; omega, by assumption⟩).symm | exact (decide_eq_false (fun h => by unfold HdOk Far at h; omega)).symm | exact (decide_eq_false (fun h => by have := h.2; contradiction)).symm
                        · replace hb66 := of_decide_eq_true hb66.symm
                          refine Ops.no rfl rfl rfl ?_
                          refine Ops.no rfl rfl rfl ?_
                          refine Ops.no rfl rfl rfl ?_
                          refine Ops.no rfl rfl rfl ?_
                          refine Ops.y rfl rfl rfl hst.ctx (Y.pick (.bool _) rfl rfl) ?_
                          refine Ops.y rfl rfl rfl hst.ctx (Y.moveB rfl) ?_
                          refine Ops.no rfl rfl rfl ?_
                          refine Ops.no rfl rfl rfl ?_
                          refine Ops.no rfl rfl rfl ?_
                          refine Ops.no rfl rfl rfl ?_
                          refine Ops.y rfl rfl rfl hst.ctx (Y.pick (.bool _) rfl rfl) ?_
                          refine Ops.y rfl rfl rfl hst.ctx (Y.moveB rfl) ?_
                          refine Ops.no rfl rfl rfl ?_
                          refine Ops.no rfl rfl rfl ?_
                          refine Ops.no rfl rfl rfl ?_
                          refine Ops.no rfl rfl rfl ?_
                          refine Ops.y rfl rfl rfl hst.ctx (Y.pick (.bool _) rfl rfl) ?_
                          refine Ops.done rfl ?_
                          refine W.condT rfl rfl ?_
                          refine W.seq rfl ?_
                          refine W.region rfl ?_
                          refine Ops.y rfl rfl rfl hst.ctx (Y.assignB rfl) ?_
                          refine Ops.done rfl ?_
                          refine W.ret rfl ?_
                          refine ⟨_, Rslt.one Try.results12 rfl, ?_⟩
                          refine ⟨_, rfl, ?_, hst.drop⟩
                          first | exact (decide_eq_true ⟨by unfold HdOk Far; omega, by assumption⟩).symm | exact (decide_eq_false (fun h => by unfold HdOk Far at h; omega)).symm | exact (decide_eq_false (fun h => by have := h.2; contradiction)).symm
                      · replace hb61 := of_decide_eq_true hb61.symm
                        refine Ops.no rfl rfl rfl ?_
                        refine Ops.no rfl rfl rfl ?_
                        refine Ops.no rfl rfl rfl ?_
                        refine Ops.y rfl rfl rfl hst.ctx (Y.pick (.bool _) rfl rfl) ?_
                        refine Ops.y rfl rfl rfl hst.ctx (Y.moveB rfl) ?_
                        refine Ops.no rfl rfl rfl ?_
                        refine Ops.no rfl rfl rfl ?_
                        refine Ops.no rfl rfl rfl ?_
                        refine Ops.no rfl rfl rfl ?_
                        refine Ops.y rfl rfl rfl hst.ctx (Y.pick (.bool _) rfl rfl) ?_
                        refine Ops.y rfl rfl rfl hst.ctx (Y.moveB rfl) ?_
                        refine Ops.no rfl rfl rfl ?_
                        refine Ops.no rfl rfl rfl ?_
                        refine Ops.no rfl rfl rfl ?_
                        refine Ops.no rfl rfl rfl ?_
                        refine Ops.y rfl rfl rfl hst.ctx (Y.pick (.bool _) rfl rfl) ?_
                        refine Ops.y rfl rfl rfl hst.ctx (Y.moveB rfl) ?_
                        refine Ops.no rfl rfl rfl ?_
                        refine Ops.no rfl rfl rfl ?_
                        refine Ops.no rfl rfl rfl ?_
                        refine Ops.no rfl rfl rfl ?_
                        refine Ops.y rfl rfl rfl hst.ctx (Y.pick (.bool _) rfl rfl) ?_
                        refine Ops.done rfl ?_
                        refine W.condT rfl rfl ?_
                        refine W.seq rfl ?_
                        refine W.region rfl ?_
                        refine Ops.y rfl rfl rfl hst.ctx (Y.assignB rfl) ?_
                        refine Ops.done rfl ?_
                        refine W.ret rfl ?_
                        refine ⟨_, Rslt.one Try.results12 rfl, ?_⟩
                        refine ⟨_, rfl, ?_, hst.drop⟩
                        first | exact (decide_eq_true ⟨by unfold HdOk Far; omega, by assumption⟩).symm | exact (decide_eq_false (fun h => by unfold HdOk Far at h; omega)).symm | exact (decide_eq_false (fun h => by have := h.2; contradiction)).symm
                    · replace hb55 := of_decide_eq_true hb55.symm
                      refine Ops.no rfl rfl rfl ?_
                      refine Ops.no rfl rfl rfl ?_
                      refine Ops.no rfl rfl rfl ?_
                      refine Ops.no rfl rfl rfl ?_
                      refine Ops.y rfl rfl rfl hst.ctx (Y.pick (.bool _) rfl rfl) ?_
                      refine Ops.y rfl rfl rfl hst.ctx (Y.moveB rfl) ?_
                      refine Ops.no rfl rfl rfl ?_
                      refine Ops.no rfl rfl rfl ?_
                      refine Ops.no rfl rfl rfl ?_
                      refine Ops.y rfl rfl rfl hst.ctx (Y.pick (.bool _) rfl rfl) ?_
                      refine Ops.y rfl rfl rfl hst.ctx (Y.moveB rfl) ?_
                      refine Ops.no rfl rfl rfl ?_
                      refine Ops.no rfl rfl rfl ?_
                      refine Ops.no rfl rfl rfl ?_
                      refine Ops.no rfl rfl rfl ?_
                      refine Ops.y rfl rfl rfl hst.ctx (Y.pick (.bool _) rfl rfl) ?_
                      refine Ops.y rfl rfl rfl hst.ctx (Y.moveB rfl) ?_
                      refine Ops.no rfl rfl rfl ?_
                      refine Ops.no rfl rfl rfl ?_
                      refine Ops.no rfl rfl rfl ?_
                      refine Ops.no rfl rfl rfl ?_
                      refine Ops.y rfl rfl rfl hst.ctx (Y.pick (.bool _) rfl rfl) ?_
                      refine Ops.y rfl rfl rfl hst.ctx (Y.moveB rfl) ?_
                      refine Ops.no rfl rfl rfl ?_
                      refine Ops.no rfl rfl rfl ?_
                      refine Ops.no rfl rfl rfl ?_
                      refine Ops.no rfl rfl rfl ?_
                      refine Ops.y rfl rfl rfl hst.ctx (Y.pick (.bool _) rfl rfl) ?_
                      refine Ops.done rfl ?_
                      refine W.condT rfl rfl ?_
                      refine W.seq rfl ?_
                      refine W.region rfl ?_
                      refine Ops.y rfl rfl rfl hst.ctx (Y.assignB rfl) ?_
                      refine Ops.done rfl ?_
                      refine W.ret rfl ?_
                      refine ⟨_, Rslt.one Try.results12 rfl, ?_⟩
                      refine ⟨_, rfl, ?_, hst.drop⟩
                      first | exact (decide_eq_true ⟨by unfold HdOk Far; omega, by assumption⟩).symm | exact (decide_eq_false (fun h => by unfold HdOk Far at h; omega)).symm | exact (decide_eq_false (fun h => by have := h.2; contradiction)).symm
                  · replace hb49 := of_decide_eq_true hb49.symm
                    refine Ops.no rfl rfl rfl ?_
                    refine Ops.no rfl rfl rfl ?_
                    refine Ops.no rfl rfl rfl ?_
                    refine Ops.no rfl rfl rfl ?_
                    refine Ops.y rfl rfl rfl hst.ctx (Y.pick (.bool _) rfl rfl) ?_
                    refine Ops.y rfl rfl rfl hst.ctx (Y.moveB rfl) ?_
                    refine Ops.no rfl rfl rfl ?_
                    refine Ops.no rfl rfl rfl ?_
                    refine Ops.no rfl rfl rfl ?_
                    refine Ops.no rfl rfl rfl ?_
                    refine Ops.y rfl rfl rfl hst.ctx (Y.pick (.bool _) rfl rfl) ?_
                    refine Ops.y rfl rfl rfl hst.ctx (Y.moveB rfl) ?_
                    refine Ops.no rfl rfl rfl ?_
                    refine Ops.no rfl rfl rfl ?_
                    refine Ops.no rfl rfl rfl ?_
                    refine Ops.y rfl rfl rfl hst.ctx (Y.pick (.bool _) rfl rfl) ?_
                    refine Ops.y rfl rfl rfl hst.ctx (Y.moveB rfl) ?_
                    refine Ops.no rfl rfl rfl ?_
                    refine Ops.no rfl rfl rfl ?_
                    refine Ops.no rfl rfl rfl ?_
                    refine Ops.no rfl rfl rfl ?_
                    refine Ops.y rfl rfl rfl hst.ctx (Y.pick (.bool _) rfl rfl) ?_
                    refine Ops.y rfl rfl rfl hst.ctx (Y.moveB rfl) ?_
                    refine Ops.no rfl rfl rfl ?_
                    refine Ops.no rfl rfl rfl ?_
                    refine Ops.no rfl rfl rfl ?_
                    refine Ops.no rfl rfl rfl ?_
                    refine Ops.y rfl rfl rfl hst.ctx (Y.pick (.bool _) rfl rfl) ?_
                    refine Ops.y rfl rfl rfl hst.ctx (Y.moveB rfl) ?_
                    refine Ops.no rfl rfl rfl ?_
                    refine Ops.no rfl rfl rfl ?_
                    refine Ops.no rfl rfl rfl ?_
                    refine Ops.no rfl rfl rfl ?_
                    refine Ops.y rfl rfl rfl hst.ctx (Y.pick (.bool _) rfl rfl) ?_
                    refine Ops.done rfl ?_
                    refine W.condT rfl rfl ?_
                    refine W.seq rfl ?_
                    refine W.region rfl ?_
                    refine Ops.y rfl rfl rfl hst.ctx (Y.assignB rfl) ?_
                    refine Ops.done rfl ?_
                    refine W.ret rfl ?_
                    refine ⟨_, Rslt.one Try.results12 rfl, ?_⟩
                    refine ⟨_, rfl, ?_, hst.drop⟩
                    first | exact (decide_eq_true ⟨by unfold HdOk Far; omega, by assumption⟩).symm | exact (decide_eq_false (fun h => by unfold HdOk Far at h; omega)).symm | exact (decide_eq_false (fun h => by have := h.2; contradiction)).symm
                · replace hb44 := of_decide_eq_true hb44.symm
                  refine Ops.no rfl rfl rfl ?_
                  refine Ops.no rfl rfl rfl ?_
                  refine Ops.no rfl rfl rfl ?_
                  refine Ops.no rfl rfl rfl ?_
                  refine Ops.y rfl rfl rfl hst.ctx (Y.pick (.bool _) rfl rfl) ?_
                  refine Ops.y rfl rfl rfl hst.ctx (Y.moveB rfl) ?_
                  refine Ops.no rfl rfl rfl ?_
                  refine Ops.no rfl rfl rfl ?_
                  refine Ops.no rfl rfl rfl ?_
                  refine Ops.no rfl rfl rfl ?_
                  refine Ops.y rfl rfl rfl hst.ctx (Y.pick (.bool _) rfl rfl) ?_
                  refine Ops.y rfl rfl rfl hst.ctx (Y.moveB rfl) ?_
                  refine Ops.no rfl rfl rfl ?_
                  refine Ops.no rfl rfl rfl ?_
                  refine Ops.no rfl rfl rfl ?_
                  refine Ops.no rfl rfl rfl ?_
                  refine Ops.y rfl rfl rfl hst.ctx (Y.pick (.bool _) rfl rfl) ?_
                  refine Ops.y rfl rfl rfl hst.ctx (Y.moveB rfl) ?_
                  refine Ops.no rfl rfl rfl ?_
                  refine Ops.no rfl rfl rfl ?_
                  refine Ops.no rfl rfl rfl ?_
                  refine Ops.y rfl rfl rfl hst.ctx (Y.pick (.bool _) rfl rfl) ?_
                  refine Ops.y rfl rfl rfl hst.ctx (Y.moveB rfl) ?_
                  refine Ops.no rfl rfl rfl ?_
                  refine Ops.no rfl rfl rfl ?_
                  refine Ops.no rfl rfl rfl ?_
                  refine Ops.no rfl rfl rfl ?_
                  refine Ops.y rfl rfl rfl hst.ctx (Y.pick (.bool _) rfl rfl) ?_
                  refine Ops.y rfl rfl rfl hst.ctx (Y.moveB rfl) ?_
                  refine Ops.no rfl rfl rfl ?_
                  refine Ops.no rfl rfl rfl ?_
                  refine Ops.no rfl rfl rfl ?_
                  refine Ops.no rfl rfl rfl ?_
                  refine Ops.y rfl rfl rfl hst.ctx (Y.pick (.bool _) rfl rfl) ?_
                  refine Ops.y rfl rfl rfl hst.ctx (Y.moveB rfl) ?_
                  refine Ops.no rfl rfl rfl ?_
                  refine Ops.no rfl rfl rfl ?_
                  refine Ops.no rfl rfl rfl ?_
                  refine Ops.no rfl rfl rfl ?_
                  refine Ops.y rfl rfl rfl hst.ctx (Y.pick (.bool _) rfl rfl) ?_
                  refine Ops.done rfl ?_
                  refine W.condT rfl rfl ?_
                  refine W.seq rfl ?_
                  refine W.region rfl ?_
                  refine Ops.y rfl rfl rfl hst.ctx (Y.assignB rfl) ?_
                  refine Ops.done rfl ?_
                  refine W.ret rfl ?_
                  refine ⟨_, Rslt.one Try.results12 rfl, ?_⟩
                  refine ⟨_, rfl, ?_, hst.drop⟩
                  first | exact (decide_eq_true ⟨by unfold HdOk Far; omega, by assumption⟩).symm | exact (decide_eq_false (fun h => by unfold HdOk Far at h; omega)).symm | exact (decide_eq_false (fun h => by have := h.2; contradiction)).symm
              · replace hb39 := of_decide_eq_true hb39.symm
                refine W.condT rfl rfl ?_
                refine W.seq rfl ?_
                refine W.region rfl ?_
                refine Ops.y rfl rfl rfl hst.ctx (Y.assignB rfl) ?_
                refine Ops.done rfl ?_
                refine W.ret rfl ?_
                refine ⟨_, Rslt.one Try.results12 rfl, ?_⟩
                refine ⟨_, rfl, ?_, hst.drop⟩
                first | exact (decide_eq_true ⟨by unfold HdOk Far; omega, by assumption⟩).symm | exact (decide_eq_false (fun h => by unfold HdOk Far at h; omega)).symm | exact (decide_eq_false (fun h => by have := h.2; contradiction)).symm
            · replace hb34 := of_decide_eq_true hb34.symm
              refine Ops.no rfl rfl rfl ?_
              refine Ops.no rfl rfl rfl ?_
              refine Ops.no rfl rfl rfl ?_
              refine Ops.y rfl rfl rfl hst.ctx (Y.pick (.bool _) rfl rfl) ?_
              refine Ops.done rfl ?_
              refine W.condT rfl rfl ?_
              refine W.seq rfl ?_
              refine W.region rfl ?_
              refine Ops.y rfl rfl rfl hst.ctx (Y.assignB rfl) ?_
              refine Ops.done rfl ?_
              refine W.ret rfl ?_
              refine ⟨_, Rslt.one Try.results12 rfl, ?_⟩
              refine ⟨_, rfl, ?_, hst.drop⟩
              first | exact (decide_eq_true ⟨by unfold HdOk Far; omega, by assumption⟩).symm | exact (decide_eq_false (fun h => by unfold HdOk Far at h; omega)).symm | exact (decide_eq_false (fun h => by have := h.2; contradiction)).symm
          · replace hb29 := of_decide_eq_true hb29.symm
            refine Ops.no rfl rfl rfl ?_
            refine Ops.no rfl rfl rfl ?_
            refine Ops.no rfl rfl rfl ?_
            refine Ops.y rfl rfl rfl hst.ctx (Y.pick (.bool _) rfl rfl) ?_
            refine Ops.y rfl rfl rfl hst.ctx (Y.moveB rfl) ?_
            refine Ops.no rfl rfl rfl ?_
            refine Ops.no rfl rfl rfl ?_
            refine Ops.no rfl rfl rfl ?_
            refine Ops.y rfl rfl rfl hst.ctx (Y.pick (.bool _) rfl rfl) ?_
            refine Ops.done rfl ?_
            refine W.condT rfl rfl ?_
            refine W.seq rfl ?_
            refine W.region rfl ?_
            refine Ops.y rfl rfl rfl hst.ctx (Y.assignB rfl) ?_
            refine Ops.done rfl ?_
            refine W.ret rfl ?_
            refine ⟨_, Rslt.one Try.results12 rfl, ?_⟩
            refine ⟨_, rfl, ?_, hst.drop⟩
            first | exact (decide_eq_true ⟨by unfold HdOk Far; omega, by assumption⟩).symm | exact (decide_eq_false (fun h => by unfold HdOk Far at h; omega)).symm | exact (decide_eq_false (fun h => by have := h.2; contradiction)).symm
        · replace hb24 := of_decide_eq_true hb24.symm
          refine Ops.no rfl rfl rfl ?_
          refine Ops.no rfl rfl rfl ?_
          refine Ops.no rfl rfl rfl ?_
          refine Ops.y rfl rfl rfl hst.ctx (Y.pick (.bool _) rfl rfl) ?_
          refine Ops.y rfl rfl rfl hst.ctx (Y.moveB rfl) ?_
          refine Ops.no rfl rfl rfl ?_
          refine Ops.no rfl rfl rfl ?_
          refine Ops.no rfl rfl rfl ?_
          refine Ops.y rfl rfl rfl hst.ctx (Y.pick (.bool _) rfl rfl) ?_
          refine Ops.y rfl rfl rfl hst.ctx (Y.moveB rfl) ?_
          refine Ops.no rfl rfl rfl ?_
          refine Ops.no rfl rfl rfl ?_
          refine Ops.no rfl rfl rfl ?_
          refine Ops.y rfl rfl rfl hst.ctx (Y.pick (.bool _) rfl rfl) ?_
          refine Ops.done rfl ?_
          refine W.condT rfl rfl ?_
          refine W.seq rfl ?_
          refine W.region rfl ?_
          refine Ops.y rfl rfl rfl hst.ctx (Y.assignB rfl) ?_
          refine Ops.done rfl ?_
          refine W.ret rfl ?_
          refine ⟨_, Rslt.one Try.results12 rfl, ?_⟩
          refine ⟨_, rfl, ?_, hst.drop⟩
          first | exact (decide_eq_true ⟨by unfold HdOk Far; omega, by assumption⟩).symm | exact (decide_eq_false (fun h => by unfold HdOk Far at h; omega)).symm | exact (decide_eq_false (fun h => by have := h.2; contradiction)).symm
      · replace hb19 := of_decide_eq_true hb19.symm
        refine Ops.no rfl rfl rfl ?_
        refine Ops.no rfl rfl rfl ?_
        refine Ops.no rfl rfl rfl ?_
        refine Ops.y rfl rfl rfl hst.ctx (Y.pick (.bool _) rfl rfl) ?_
        refine Ops.y rfl rfl rfl hst.ctx (Y.moveB rfl) ?_
        refine Ops.no rfl rfl rfl ?_
        refine Ops.no rfl rfl rfl ?_
        refine Ops.no rfl rfl rfl ?_
        refine Ops.y rfl rfl rfl hst.ctx (Y.pick (.bool _) rfl rfl) ?_
        refine Ops.y rfl rfl rfl hst.ctx (Y.moveB rfl) ?_
        refine Ops.no rfl rfl rfl ?_
        refine Ops.no rfl rfl rfl ?_
        refine Ops.no rfl rfl rfl ?_
        refine Ops.y rfl rfl rfl hst.ctx (Y.pick (.bool _) rfl rfl) ?_
        refine Ops.y rfl rfl rfl hst.ctx (Y.moveB rfl) ?_
        refine Ops.no rfl rfl rfl ?_
        refine Ops.no rfl rfl rfl ?_
        refine Ops.no rfl rfl rfl ?_
        refine Ops.y rfl rfl rfl hst.ctx (Y.pick (.bool _) rfl rfl) ?_
        refine Ops.done rfl ?_
        refine W.condT rfl rfl ?_
        refine W.seq rfl ?_
        refine W.region rfl ?_
        refine Ops.y rfl rfl rfl hst.ctx (Y.assignB rfl) ?_
        refine Ops.done rfl ?_
        refine W.ret rfl ?_
        refine ⟨_, Rslt.one Try.results12 rfl, ?_⟩
        refine ⟨_, rfl, ?_, hst.drop⟩
        first | exact (decide_eq_true ⟨by unfold HdOk Far; omega, by assumption⟩).symm | exact (decide_eq_false (fun h => by unfold HdOk Far at h; omega)).symm | exact (decide_eq_false (fun h => by have := h.2; contradiction)).symm
    · replace hb14 := of_decide_eq_true hb14.symm
      refine Ops.no rfl rfl rfl ?_
      refine Ops.no rfl rfl rfl ?_
      refine Ops.no rfl rfl rfl ?_
      refine Ops.y rfl rfl rfl hst.ctx (Y.pick (.bool _) rfl rfl) ?_
      refine Ops.y rfl rfl rfl hst.ctx (Y.moveB rfl) ?_
      refine Ops.no rfl rfl rfl ?_
      refine Ops.no rfl rfl rfl ?_
      refine Ops.no rfl rfl rfl ?_
      refine Ops.y rfl rfl rfl hst.ctx (Y.pick (.bool _) rfl rfl) ?_
      refine Ops.y rfl rfl rfl hst.ctx (Y.moveB rfl) ?_
      refine Ops.no rfl rfl rfl ?_
      refine Ops.no rfl rfl rfl ?_
      refine Ops.no rfl rfl rfl ?_
      refine Ops.y rfl rfl rfl hst.ctx (Y.pick (.bool _) rfl rfl) ?_
      refine Ops.y rfl rfl rfl hst.ctx (Y.moveB rfl) ?_
      refine Ops.no rfl rfl rfl ?_
      refine Ops.no rfl rfl rfl ?_
      refine Ops.no rfl rfl rfl ?_
      refine Ops.y rfl rfl rfl hst.ctx (Y.pick (.bool _) rfl rfl) ?_
      refine Ops.y rfl rfl rfl hst.ctx (Y.moveB rfl) ?_
      refine Ops.no rfl rfl rfl ?_
      refine Ops.no rfl rfl rfl ?_
      refine Ops.no rfl rfl rfl ?_
      refine Ops.y rfl rfl rfl hst.ctx (Y.pick (.bool _) rfl rfl) ?_
      refine Ops.done rfl ?_
      refine W.condT rfl rfl ?_
      refine W.seq rfl ?_
      refine W.region rfl ?_
      refine Ops.y rfl rfl rfl hst.ctx (Y.assignB rfl) ?_
      refine Ops.done rfl ?_
      refine W.ret rfl ?_
      refine ⟨_, Rslt.one Try.results12 rfl, ?_⟩
      refine ⟨_, rfl, ?_, hst.drop⟩
      first | exact (decide_eq_true ⟨by unfold HdOk Far; omega, by assumption⟩).symm | exact (decide_eq_false (fun h => by unfold HdOk Far at h; omega)).symm | exact (decide_eq_false (fun h => by have := h.2; contradiction)).symm
  · replace hb5 := of_decide_eq_true hb5.symm
    first
    | refine Ops.y rfl rfl rfl hst.ctx (Y.fieldAddr fa28_0 rfl) ?_
    | refine Ops.y rfl rfl rfl hst.ctx (Y.fieldAddrP fa28_0 rfl) ?_
    refine Ops.y rfl rfl rfl hst.ctx (Y.load 0 Try.isAgg3 rfl rfl rfl) ?_
    refine Ops.yb rfl rfl rfl hst.ctx (Y.neq rfl rfl) (fun b9 hb9 => ?_)
    refine Ops.y rfl rfl rfl hst.ctx (Y.pick (.bool _) rfl rfl) ?_
    refine Ops.y rfl rfl rfl hst.ctx (Y.moveB rfl) ?_
    cases b9
    · replace hb9 := of_decide_eq_false hb9.symm
      first
      | refine Ops.y rfl rfl rfl hst.ctx (Y.fieldAddr fa28_1 rfl) ?_
      | refine Ops.y rfl rfl rfl hst.ctx (Y.fieldAddrP fa28_1 rfl) ?_
      refine Ops.y rfl rfl rfl hst.ctx (Y.load 0 Try.isAgg3 rfl rfl rfl) ?_
      refine Ops.yb rfl rfl rfl hst.ctx (Y.lss rfl rfl) (fun b14 hb14 => ?_)
      refine Ops.y rfl rfl rfl hst.ctx (Y.pick (.bool _) rfl rfl) ?_
      refine Ops.y rfl rfl rfl hst.ctx (Y.moveB rfl) ?_
      cases b14
      · replace hb14 := of_decide_eq_false hb14.symm
        first
        | refine Ops.y rfl rfl rfl hst.ctx (Y.fieldAddr fa28_1 rfl) ?_
        | refine Ops.y rfl rfl rfl hst.ctx (Y.fieldAddrP fa28_1 rfl) ?_
        refine Ops.y rfl rfl rfl hst.ctx (Y.load 0 Try.isAgg3 rfl rfl rfl) ?_
        refine Ops.yb rfl rfl rfl hst.ctx (Y.gtr rfl rfl) (fun b19 hb19 => ?_)
        refine Ops.y rfl rfl rfl hst.ctx (Y.pick (.bool _) rfl rfl) ?_
        refine Ops.y rfl rfl rfl hst.ctx (Y.moveB rfl) ?_
        cases b19
        · replace hb19 := of_decide_eq_false hb19.symm
          first
          | refine Ops.y rfl rfl rfl hst.ctx (Y.fieldAddr fa28_3 rfl) ?_
          | refine Ops.y rfl rfl rfl hst.ctx (Y.fieldAddrP fa28_3 rfl) ?_
          refine Ops.y rfl rfl rfl hst.ctx (Y.load 0 Try.isAgg3 rfl rfl rfl) ?_
          refine Ops.yb rfl rfl rfl hst.ctx (Y.lss rfl rfl) (fun b24 hb24 => ?_)
          refine Ops.y rfl rfl rfl hst.ctx (Y.pick (.bool _) rfl rfl) ?_
          refine Ops.y rfl rfl rfl hst.ctx (Y.moveB rfl) ?_
          cases b24
          · replace hb24 := of_decide_eq_false hb24.symm
            first
            | refine Ops.y rfl rfl rfl hst.ctx (Y.fieldAddr fa28_3 rfl) ?_
            | refine Ops.y rfl rfl rfl hst.ctx (Y.fieldAddrP fa28_3 rfl) ?_
            refine Ops.y rfl rfl rfl hst.ctx (Y.load 0 Try.isAgg3 rfl rfl rfl) ?_
            refine Ops.yb rfl rfl rfl hst.ctx (Y.gtr rfl rfl) (fun b29 hb29 => ?_)
            refine Ops.y rfl rfl rfl hst.ctx (Y.pick (.bool _) rfl rfl) ?_
            refine Ops.y rfl rfl rfl hst.ctx (Y.moveB rfl) ?_
            cases b29
            · replace hb29 := of_decide_eq_false hb29.symm
              first
              | refine Ops.y rfl rfl rfl hst.ctx (Y.fieldAddr fa28_4 rfl) ?_
              | refine Ops.y rfl rfl rfl hst.ctx (Y.fieldAddrP fa28_4 rfl) ?_
              refine Ops.y rfl rfl rfl hst.ctx (Y.load 0 Try.isAgg3 rfl rfl rfl) ?_
              refine Ops.yb rfl rfl rfl hst.ctx (Y.lss rfl rfl) (fun b34 hb34 => ?_)
              refine Ops.y rfl rfl rfl hst.ctx (Y.pick (.bool _) rfl rfl) ?_
              refine Ops.y rfl rfl rfl hst.ctx (Y.moveB rfl) ?_
              cases b34
              · replace hb34 := of_decide_eq_false hb34.symm
                first
                | refine Ops.y rfl rfl rfl hst.ctx (Y.fieldAddr fa28_4 rfl) ?_
                | refine Ops.y rfl rfl rfl hst.ctx (Y.fieldAddrP fa28_4 rfl) ?_
                refine Ops.y rfl rfl rfl hst.ctx (Y.load 0 Try.isAgg3 rfl rfl rfl) ?_
                refine Ops.yb rfl rfl rfl hst.ctx (Y.gtr rfl rfl) (fun b39 hb39 => ?_)
                refine Ops.y rfl rfl rfl hst.ctx (Y.pick (.bool _) rfl rfl) ?_
                refine Ops.done rfl ?_
                cases b39
                · replace hb39 := of_decide_eq_false hb39.symm
                  refine W.condF rfl rfl ?_
                  refine W.skip rfl ?_
                  refine W.seq rfl ?_
                  refine W.seq rfl ?_
                  refine W.region rfl ?_
                  first
                  | refine Ops.y rfl rfl rfl hst.ctx (Y.fieldAddr fa28_2 rfl) ?_
                  | refine Ops.y rfl rfl rfl hst.ctx (Y.fieldAddrP fa28_2 rfl) ?_
                  first
                  | refine Ops.y rfl rfl rfl hst.ctx (Y.fieldAddr fa23_0 rfl) ?_
                  | refine Ops.y rfl rfl rfl hst.ctx (Y.fieldAddrP fa23_0 rfl) ?_
                  refine Ops.y rfl rfl rfl hst.ctx (Y.load 0 Try.isAgg3 rfl rfl rfl) ?_
                  refine Ops.x rfl rfl rfl (X.call cf23 rfl ?_)
                  refine use_call (far_any _ _) rfl ?_; rintro e w' ⟨b44, rfl, hb44, rfl⟩; refine ⟨_, rfl, ?_⟩
                  refine Ops.y rfl rfl rfl hst.ctx (Y.moveB rfl) ?_
                  cases b44
                  · replace hb44 := of_decide_eq_false hb44.symm
                    first
                    | refine Ops.y rfl rfl rfl hst.ctx (Y.fieldAddr fa28_2 rfl) ?_
                    | refine Ops.y rfl rfl rfl hst.ctx (Y.fieldAddrP fa28_2 rfl) ?_
                    first
                    | refine Ops.y rfl rfl rfl hst.ctx (Y.fieldAddr fa23_1 rfl) ?_
                    | refine Ops.y rfl rfl rfl hst.ctx (Y.fieldAddrP fa23_1 rfl) ?_
                    refine Ops.y rfl rfl rfl hst.ctx (Y.load 0 Try.isAgg3 rfl rfl rfl) ?_
                    refine Ops.x rfl rfl rfl (X.call cf23 rfl ?_)
                    refine use_call (far_any _ _) rfl ?_; rintro e w' ⟨b49, rfl, hb49, rfl⟩; refine ⟨_, rfl, ?_⟩
                    refine Ops.y rfl rfl rfl hst.ctx (Y.pick (.bool _) rfl rfl) ?_
                    refine Ops.y rfl rfl rfl hst.ctx (Y.moveB rfl) ?_
                    cases b49
                    · replace hb49 := of_decide_eq_false hb49.symm
                      first
                      | refine Ops.y rfl rfl rfl hst.ctx (Y.fieldAddr fa28_7 rfl) ?_
                      | refine Ops.y rfl rfl rfl hst.ctx (Y.fieldAddrP fa28_7 rfl) ?_
                      first
                      | refine Ops.y rfl rfl rfl hst.ctx (Y.fieldAddr fa23_0 rfl) ?_
                      | refine Ops.y rfl rfl rfl hst.ctx (Y.fieldAddrP fa23_0 rfl) ?_
                      refine Ops.y rfl rfl rfl hst.ctx (Y.load 0 Try.isAgg3 rfl rfl rfl) ?_
                      refine Ops.x rfl rfl rfl (X.call cf23 rfl ?_)
                      refine use_call (far_any _ _) rfl ?_; rintro e w' ⟨b55, rfl, hb55, rfl⟩; refine ⟨_, rfl, ?_⟩
                      refine Ops.y rfl rfl rfl hst.ctx (Y.pick (.bool _) rfl rfl) ?_
                      refine Ops.y rfl rfl rfl hst.ctx (Y.moveB rfl) ?_
                      cases b55
                      · replace hb55 := of_decide_eq_false hb55.symm
                        first
                        | refine Ops.y rfl rfl rfl hst.ctx (Y.fieldAddr fa28_7 rfl) ?_
                        | refine Ops.y rfl rfl rfl hst.ctx (Y.fieldAddrP fa28_7 rfl) ?_
                        first
                        | refine Ops.y rfl rfl rfl hst.ctx (Y.fieldAddr fa23_1 rfl) ?_
                        | refine Ops.y rfl rfl rfl hst.ctx (Y.fieldAddrP fa23_1 rfl) ?_
                        refine Ops.y rfl rfl rfl hst.ctx (Y.load 0 Try.isAgg3 rfl rfl rfl) ?_
                        refine Ops.x rfl rfl rfl (X.call cf23 rfl ?_)
                        refine use_call (far_any _ _) rfl ?_; rintro e w' ⟨b61, rfl, hb61, rfl⟩; refine ⟨_, rfl, ?_⟩
                        refine Ops.y rfl rfl rfl hst.ctx (Y.pick (.bool _) rfl rfl) ?_
                        refine Ops.y rfl rfl rfl hst.ctx (Y.moveB rfl) ?_
                        cases b61
                        · replace hb61 := of_decide_eq_false hb61.symm
                          first
                          | refine Ops.y rfl rfl rfl hst.ctx (Y.fieldAddr fa28_8 rfl) ?_
                          | refine Ops.y rfl rfl rfl hst.ctx (Y.fieldAddrP fa28_8 rfl) ?_
                          refine Ops.y rfl rfl rfl hst.ctx (Y.load 0 Try.isAgg3 rfl rfl rfl) ?_
                          refine Ops.x rfl rfl rfl (X.call cf23 rfl ?_)
                          refine use_call (far_any _ _) rfl ?_; rintro e w' ⟨b66, rfl, hb66, rfl⟩; refine ⟨_, rfl, ?_⟩
                          refine Ops.y rfl rfl rfl hst.ctx (Y.pick (.bool _) rfl rfl) ?_
                          refine Ops.y rfl rfl rfl hst.ctx (Y.moveB rfl) ?_
                          cases b66
                          · replace hb66 := of_decide_eq_false hb66.symm
                            first
                            | refine Ops.y rfl rfl rfl hst.ctx (Y.fieldAddr fa28_9 rfl) ?_
                            | refine Ops.y rfl rfl rfl hst.ctx (Y.fieldAddrP fa28_9 rfl) ?_
                            first
                            | refine Ops.y rfl rfl rfl hst.ctx (Y.fieldAddr fa25_0 rfl) ?_
                            | refine Ops.y rfl rfl rfl hst.ctx (Y.fieldAddrP fa25_0 rfl) ?_
                            refine Ops.y rfl rfl rfl hst.ctx (Y.load 0 Try.isAgg3 rfl rfl rfl) ?_
                            refine Ops.x rfl rfl rfl (X.call cf23 rfl ?_)
                            refine use_call (far_any _ _) rfl ?_; rintro e w' ⟨b72, rfl, hb72, rfl⟩; refine ⟨_, rfl, ?_⟩
                            refine Ops.y rfl rfl rfl hst.ctx (Y.pick (.bool _) rfl rfl) ?_
                            refine Ops.y rfl rfl rfl hst.ctx (Y.moveB rfl) ?_
                            cases b72
                            · replace hb72 := of_decide_eq_false hb72.symm
                              first
                              | refine Ops.y rfl rfl rfl hst.ctx (Y.fieldAddr fa28_9 rfl) ?_
                              | refine Ops.y rfl rfl rfl hst.ctx (Y.fieldAddrP fa28_9 rfl) ?_
                              first
                              | refine Ops.y rfl rfl rfl hst.ctx (Y.fieldAddr fa25_1 rfl) ?_
                              | refine Ops.y rfl rfl rfl hst.ctx (Y.fieldAddrP fa25_1 rfl) ?_
                              refine Ops.y rfl rfl rfl hst.ctx (Y.load 0 Try.isAgg3 rfl rfl rfl) ?_
                              refine Ops.yb rfl rfl rfl hst.ctx (Y.lss rfl rfl) (fun b78 hb78 => ?_)
                              refine Ops.y rfl rfl rfl hst.ctx (Y.pick (.bool _) rfl rfl) ?_
                              refine Ops.y rfl rfl rfl hst.ctx (Y.moveB rfl) ?_
                              cases b78
                              · replace hb78 := of_decide_eq_false hb78.symm
                                first
                                | refine Ops.y rfl rfl rfl hst.ctx (Y.fieldAddr fa28_9 rfl) ?_
                                | refine Ops.y rfl rfl rfl hst.ctx (Y.fieldAddrP fa28_9 rfl) ?_
                                first
                                | refine Ops.y rfl rfl rfl hst.ctx (Y.fieldAddr fa25_1 rfl) ?_
                                | refine Ops.y rfl rfl rfl hst.ctx (Y.fieldAddrP fa25_1 rfl) ?_
                                refine Ops.y rfl rfl rfl hst.ctx (Y.load 0 Try.isAgg3 rfl rfl rfl) ?_
                                refine Ops.yb rfl rfl rfl hst.ctx (Y.gtr rfl rfl) (fun b84 hb84 => ?_)
                                refine Ops.y rfl rfl rfl hst.ctx (Y.pick (.bool _) rfl rfl) ?_
                                refine Ops.done rfl ?_
                                cases b84
                                · replace hb84 := of_decide_eq_false hb84.symm
                                  refine W.condF rfl rfl ?_
                                  refine W.skip rfl ?_
                                  refine W.seq rfl ?_
                                  refine W.region rfl ?_
                                  first
                                  | refine Ops.y rfl rfl rfl hst.ctx (Y.fieldAddr fa28_10 rfl) ?_
                                  | refine Ops.y rfl rfl rfl hst.ctx (Y.fieldAddrP fa28_10 rfl) ?_
                                  refine Ops.y rfl rfl rfl hst.ctx (Y.load 0 Try.isAgg26 rfl rfl rfl) ?_
                                  refine Ops.x rfl rfl rfl (X.call cf14 rfl ?_)
                                  refine use_call (rtable_b _ tab _ _ _ _ _ hst (hr.cons _) hlen hwf) rfl ?_; rintro e w1 ⟨b88, rfl, hb88, hst⟩; refine ⟨_, rfl, ?_⟩
                                  refine Ops.y rfl rfl rfl hst.ctx (Y.assignB rfl) ?_
                                  refine Ops.done rfl ?_
                                  refine W.ret rfl ?_
                                  cases b88
                                  · replace hb88 := of_decide_eq_false hb88.symm
                                    refine ⟨_, Rslt.one Try.results12 rfl, ?_⟩
                                    refine ⟨_, rfl, ?_, hst.drop⟩
                                    first | exact (decide_eq_true ⟨by unfold HdOk Far; omega, by assumption⟩).symm | exact (decide_eq_false (fun h => by unfold HdOk Far at h; omega)).symm | exact (decide_eq_false (fun h => by have := h.2; contradiction)).symm
                                  · replace hb88 := of_decide_eq_true hb88.symm
                                    refine ⟨_, Rslt.one Try.results12 rfl, ?_⟩
                                    refine ⟨_, rfl, ?_, hst.drop⟩
                                    first | exact (decide_eq_true ⟨by unfold HdOk Far; omega, by assumption⟩).symm | exact (decide_eq_false (fun h => by unfold HdOk Far at h; omega)).symm | exact (decide_eq_false (fun h => by have := h.2; contradiction)).symm
                                · replace hb84 := of_decide_eq_true hb84.symm
                                  refine W.condT rfl rfl ?_
                                  refine W.seq rfl ?_
                                  refine W.region rfl ?_
                                  refine Ops.y rfl rfl rfl hst.ctx (Y.assignB rfl) ?_
                                  refine Ops.done rfl ?_
                                  refine W.ret rfl ?_
                                  refine ⟨_, Rslt.one Try.results12 rfl, ?_⟩
                                  refine ⟨_, rfl, ?_, hst.drop⟩
                                  first | exact (decide_eq_true ⟨by unfold HdOk Far; omega, by assumption⟩).symm | exact (decide_eq_false (fun h => by unfold HdOk Far at h; omega)).symm | exact (decide_eq_false (fun h => by have := h.2; contradiction)).symm
                              · replace hb78 := of_decide_eq_true hb78.symm
                                refine Ops.no rfl rfl rfl ?_
                                refine Ops.no rfl rfl rfl ?_
                                refine Ops.no rfl rfl rfl ?_
                                refine Ops.no rfl rfl rfl ?_
                                refine Ops.y rfl rfl rfl hst.ctx (Y.pick (.bool _) rfl rfl) ?_
                                refine Ops.done rfl ?_
                                refine W.condT rfl rfl ?_
                                refine W.seq rfl ?_
                                refine W.region rfl ?_
                                refine Ops.y rfl rfl rfl hst.ctx (Y.assignB rfl) ?_
                                refine Ops.done rfl ?_
                                refine W.ret rfl ?_
                                refine ⟨_, Rslt.one Try.results12 rfl, ?_⟩
                                refine ⟨_, rfl, ?_, hst.drop⟩
                                first | exact (decide_eq_true ⟨by unfold HdOk Far; omega, by assumption⟩).symm | exact (decide_eq_false (fun h => by unfold HdOk Far at h; omega)).symm | exact (decide_eq_false (fun h => by have := h.2; contradiction)).symm
                            · replace hb72 := of_decide_eq_true hb72.symm
                              refine Ops.no rfl rfl rfl ?_
                              refine Ops.no rfl rfl rfl ?_
                              refine Ops.no rfl rfl rfl ?_
                              refine Ops.no rfl rfl rfl ?_
                              refine Ops.y rfl rfl rfl hst.ctx (Y.pick (.bool _) rfl rfl) ?_
                              refine Ops.y rfl rfl rfl hst.ctx (Y.moveB rfl) ?_
                              refine Ops.no rfl rfl rfl ?_
                              refine Ops.no rfl rfl rfl ?_
                              refine Ops.no rfl rfl rfl ?_
                              refine Ops.no rfl rfl rfl ?_
                              refine Ops.y rfl rfl rfl hst.ctx (Y.pick (.bool _) rfl rfl) ?_
                              refine Ops.done rfl ?_
                              refine W.condT rfl rfl ?_
                              refine W.seq rfl ?_
                              refine W.region rfl ?_
                              refine Ops.y rfl rfl rfl hst.ctx (Y.assignB rfl) ?_
                              refine Ops.done rfl ?_
                              refine W.ret rfl ?_
                              refine ⟨_, Rslt.one Try.results12 rfl, ?_⟩
                              refine ⟨_, rfl, ?_, hst.drop⟩
                              first | exact (decide_eq_true ⟨by unfold HdOk Far; omega, by assumption⟩).symm | exact (decide_eq_false (fun h => by unfold HdOk Far at h; omega)).symm | exact (decide_eq_false (fun h => by have := h.2; contradiction)).symm
                          · replace hb66 := of_decide_eq_true hb66.symm
                            refine Ops.no rfl rfl rfl ?_
                            refine Ops.no rfl rfl rfl ?_
                            refine Ops.no rfl rfl rfl ?_
                            refine Ops.no rfl rfl rfl ?_
                            refine Ops.y rfl rfl rfl hst.ctx (Y.pick (.bool _) rfl rfl) ?_
                            refine Ops.y rfl rfl rfl hst.ctx (Y.moveB rfl) ?_
                            refine Ops.no rfl rfl rfl ?_
                            refine Ops.no rfl rfl rfl ?_
                            refine Ops.no rfl rfl rfl ?_
                            refine Ops.no rfl rfl rfl ?_
                            refine Ops.y rfl rfl rfl hst.ctx (Y.pick (.bool _) rfl rfl) ?_
                            refine Ops.y rfl rfl rfl hst.ctx (Y.moveB rfl) ?_
                            refine Ops.no rfl rfl rfl ?_
                            refine Ops.no rfl rfl rfl ?_
                            refine Ops.no rfl rfl rfl ?_
                            refine Ops.no rfl rfl rfl ?_
                            refine Ops.y rfl rfl rfl hst.ctx (Y.pick (.bool _) rfl rfl) ?_
                            refine Ops.done rfl ?_
                            refine W.condT rfl rfl ?_
                            refine W.seq rfl ?_
                            refine W.region rfl ?_
                            refine Ops.y rfl rfl rfl hst.ctx (Y.assignB rfl) ?_
                            refine Ops.done rfl ?_
                            refine W.ret rfl ?_
                            refine ⟨_, Rslt.one Try.results12 rfl, ?_⟩
                            refine ⟨_, rfl, ?_, hst.drop⟩
                            first | exact (decide_eq_true ⟨by unfold HdOk Far; omega, by assumption⟩).symm | exact (decide_eq_false (fun h => by unfold HdOk Far at h; omega)).symm | exact (decide_eq_false (fun h => by have := h.2; contradiction)).symm
                        · replace hb61 := of_decide_eq_true hb61.symm
                          refine Ops.no rfl rfl rfl ?_
                          refine Ops.no rfl rfl rfl ?_
                          refine Ops.no rfl rfl rfl ?_
                          refine Ops.y rfl rfl rfl hst.ctx (Y.pick (.bool _) rfl rfl) ?_
                          refine Ops.y rfl rfl rfl hst.ctx (Y.moveB rfl) ?_
                          refine Ops.no rfl rfl rfl ?_
                          refine Ops.no rfl rfl rfl ?_
                          refine Ops.no rfl rfl rfl ?_
                          refine Ops.no rfl rfl rfl ?_
                          refine Ops.y rfl rfl rfl hst.ctx (Y.pick (.bool _) rfl rfl) ?_
                          refine Ops.y rfl rfl rfl hst.ctx (Y.moveB rfl) ?_
                          refine Ops.no rfl rfl rfl ?_
                          refine Ops.no rfl rfl rfl ?_
                          refine Ops.no rfl rfl rfl ?_
                          refine Ops.no rfl rfl rfl ?_
                          refine Ops.y rfl rfl rfl hst.ctx (Y.pick (.bool _) rfl rfl) ?_
                          refine Ops.y rfl rfl rfl hst.ctx (Y.moveB rfl) ?_
                          refine Ops.no rfl rfl rfl ?_
                          refine Ops.no rfl rfl rfl ?_
                          refine Ops.no rfl rfl rfl ?_
                          refine Ops.no rfl rfl rfl ?_
                          refine Ops.y rfl rfl rfl hst.ctx (Y.pick (.bool _) rfl rfl) ?_
                          refine Ops.done rfl ?_
                          refine W.condT rfl rfl ?_
                          refine W.seq rfl ?_
                          refine W.region rfl ?_
                          refine Ops.y rfl rfl rfl hst.ctx (Y.assignB rfl) ?_
                          refine Ops.done rfl ?_
                          refine W.ret rfl ?_
                          refine ⟨_, Rslt.one Try.results12 rfl, ?_⟩
                          refine ⟨_, rfl, ?_, hst.drop⟩
                          first | exact (decide_eq_true ⟨by unfold HdOk Far; omega, by assumption⟩).symm | exact (decide_eq_false (fun h => by unfold HdOk Far at h; omega)).symm | exact (decide_eq_false (fun h => by have := h.2; contradiction)).symm
                      · replace hb55 := of_decide_eq_true hb55.symm
                        refine Ops.no rfl rfl rfl ?_
                        refine Ops.no rfl rfl rfl ?_
                        refine Ops.no rfl rfl rfl ?_
                        refine Ops.no rfl rfl rfl ?_
                        refine Ops.y rfl rfl rfl hst.ctx (Y.pick (.bool _) rfl rfl) ?_
                        refine Ops.y rfl rfl rfl hst.ctx (Y.moveB rfl) ?_
                        refine Ops.no rfl rfl rfl ?_
                        refine Ops.no rfl rfl rfl ?_
                        refine Ops.no rfl rfl rfl ?_
                        refine Ops.y rfl rfl rfl hst.ctx (Y.pick (.bool _) rfl rfl) ?_
                        refine Ops.y rfl rfl rfl hst.ctx (Y.moveB rfl) ?_
                        refine Ops.no rfl rfl rfl ?_
                        refine Ops.no rfl rfl rfl ?_
                        refine Ops.no rfl rfl rfl ?_
                        refine Ops.no rfl rfl rfl ?_
                        refine Ops.y rfl rfl rfl hst.ctx (Y.pick (.bool _) rfl rfl) ?_
                        refine Ops.y rfl rfl rfl hst.ctx (Y.moveB rfl) ?_
                        refine Ops.no rfl rfl rfl ?_
                        refine Ops.no rfl rfl rfl ?_
                        refine Ops.no rfl rfl rfl ?_
                        refine Ops.no rfl rfl rfl ?_
                        refine Ops.y rfl rfl rfl hst.ctx (Y.pick (.bool _) rfl rfl) ?_
                        refine Ops.y rfl rfl rfl hst.ctx (Y.moveB rfl) ?_
                        refine Ops.no rfl rfl rfl ?_
                        refine Ops.no rfl rfl rfl ?_
                        refine Ops.no rfl rfl rfl ?_
                        refine Ops.no rfl rfl rfl ?_
                        refine Ops.y rfl rfl rfl hst.ctx (Y.pick (.bool _) rfl rfl) ?_
                        refine Ops.done rfl ?_
                        refine W.condT rfl rfl ?_
                        refine W.seq rfl ?_
                        refine W.region rfl ?_
                        refine Ops.y rfl rfl rfl hst.ctx (Y.assignB rfl) ?_
                        refine Ops.done rfl ?_
                        refine W.ret rfl ?_
                        refine ⟨_, Rslt.one Try.results12 rfl, ?_⟩
                        refine ⟨_, rfl, ?_, hst.drop⟩
                        first | exact (decide_eq_true ⟨by unfold HdOk Far; omega, by assumption⟩).symm | exact (decide_eq_false (fun h => by unfold HdOk Far at h; omega)).symm | exact (decide_eq_false (fun h => by have := h.2; contradiction)).symm
                    · replace hb49 := of_decide_eq_true hb49.symm
                      refine Ops.no rfl rfl rfl ?_
                      refine Ops.no rfl rfl rfl ?_
                      refine Ops.no rfl rfl rfl ?_
                      refine Ops.no rfl rfl rfl ?_
                      refine Ops.y rfl rfl rfl hst.ctx (Y.pick (.bool _) rfl rfl) ?_
                      refine Ops.y rfl rfl rfl hst.ctx (Y.moveB rfl) ?_
                      refine Ops.no rfl rfl rfl ?_
                      refine Ops.no rfl rfl rfl ?_
                      refine Ops.no rfl rfl rfl ?_
                      refine Ops.no rfl rfl rfl ?_
                      refine Ops.y rfl rfl rfl hst.ctx (Y.pick (.bool _) rfl rfl) ?_
                      refine Ops.y rfl rfl rfl hst.ctx (Y.moveB rfl) ?_
                      refine Ops.no rfl rfl rfl ?_
                      refine Ops.no rfl rfl rfl ?_
                      refine Ops.no rfl rfl rfl ?_
                      refine Ops.y rfl rfl rfl hst.ctx (Y.pick (.bool _) rfl rfl) ?_
                      refine Ops.y rfl rfl rfl hst.ctx (Y.moveB rfl) ?_
                      refine Ops.no rfl rfl rfl ?_
                      refine Ops.no rfl rfl rfl ?_
                      refine Ops.no rfl rfl rfl ?_
                      refine Ops.no rfl rfl rfl ?_
                      refine Ops.y rfl rfl rfl hst.ctx (Y.pick (.bool _) rfl rfl) ?_
                      refine Ops.y rfl rfl rfl hst.ctx (Y.moveB rfl) ?_
                      refine Ops.no rfl rfl rfl ?_
                      refine Ops.no rfl rfl rfl ?_
                      refine Ops.no rfl rfl rfl ?_
                      refine Ops.no rfl rfl rfl ?_
                      refine Ops.y rfl rfl rfl hst.ctx (Y.pick (.bool _) rfl rfl) ?_
                      refine Ops.y rfl rfl rfl hst.ctx (Y.moveB rfl) ?_
                      refine Ops.no rfl rfl rfl ?_
                      refine Ops.no rfl rfl rfl ?_
                      refine Ops.no rfl rfl rfl ?_
                      refine Ops.no rfl rfl rfl ?_
                      refine Ops.y rfl rfl rfl hst.ctx (Y.pick (.bool _) rfl rfl) ?_
                      refine Ops.done rfl ?_
                      refine W.condT rfl rfl ?_
                      refine W.seq rfl ?_
                      refine W.region rfl ?_
                      refine Ops.y rfl rfl rfl hst.ctx (Y.assignB rfl) ?_
                      refine Ops.done rfl ?_
                      refine W.ret rfl ?_
                      refine ⟨_, Rslt.one Try.results12 rfl, ?_⟩
                      refine ⟨_, rfl, ?_, hst.drop⟩
                      first | exact (decide_eq_true ⟨by unfold HdOk Far; omega, by assumption⟩).symm | exact (decide_eq_false (fun h => by unfold HdOk Far at h; omega)).symm | exact (decide_eq_false (fun h => by have := h.2; contradiction)).symm
                  · replace hb44 := of_decide_eq_true hb44.symm
                    refine Ops.no rfl rfl rfl ?_
                    refine Ops.no rfl rfl rfl ?_
                    refine Ops.no rfl rfl rfl ?_
                    refine Ops.no rfl rfl rfl ?_
                    refine Ops.y rfl rfl rfl hst.ctx (Y.pick (.bool _) rfl rfl) ?_
                    refine Ops.y rfl rfl rfl hst.ctx (Y.moveB rfl) ?_
                    refine Ops.no rfl rfl rfl ?_
                    refine Ops.no rfl rfl rfl ?_
                    refine Ops.no rfl rfl rfl ?_
                    refine Ops.no rfl rfl rfl ?_
                    refine Ops.y rfl rfl rfl hst.ctx (Y.pick (.bool _) rfl rfl) ?_
                    refine Ops.y rfl rfl rfl hst.ctx (Y.moveB rfl) ?_
                    refine Ops.no rfl rfl rfl ?_
                    refine Ops.no rfl rfl rfl ?_
                    refine Ops.no rfl rfl rfl ?_
                    refine Ops.no rfl rfl rfl ?_
                    refine Ops.y rfl rfl rfl hst.ctx (Y.pick (.bool _) rfl rfl) ?_
                    refine Ops.y rfl rfl rfl hst.ctx (Y.moveB rfl) ?_
                    refine Ops.no rfl rfl rfl ?_
                    refine Ops.no rfl rfl rfl ?_
                    refine Ops.no rfl rfl rfl ?_
                    refine Ops.y rfl rfl rfl hst.ctx (Y.pick (.bool _) rfl rfl) ?_
                    refine Ops.y rfl rfl rfl hst.ctx (Y.moveB rfl) ?_
                    refine Ops.no rfl rfl rfl ?_
                    refine Ops.no rfl rfl rfl ?_
                    refine Ops.no rfl rfl rfl ?_
                    refine Ops.no rfl rfl rfl ?_
                    refine Ops.y rfl rfl rfl hst.ctx (Y.pick (.bool _) rfl rfl) ?_
                    refine Ops.y rfl rfl rfl hst.ctx (Y.moveB rfl) ?_
                    refine Ops.no rfl rfl rfl ?_
                    refine Ops.no rfl rfl rfl ?_
                    refine Ops.no rfl rfl rfl ?_
                    refine Ops.no rfl rfl rfl ?_
                    refine Ops.y rfl rfl rfl hst.ctx (Y.pick (.bool _) rfl rfl) ?_
                    refine Ops.y rfl rfl rfl hst.ctx (Y.moveB rfl) ?_
                    refine Ops.no rfl rfl rfl ?_
                    refine Ops.no rfl rfl rfl ?_
                    refine Ops.no rfl rfl rfl ?_
                    refine Ops.no rfl rfl rfl ?_
                    refine Ops.y rfl rfl rfl hst.ctx (Y.pick (.bool _) rfl rfl) ?_
                    refine Ops.done rfl ?_
                    refine W.condT rfl rfl ?_
                    refine W.seq rfl ?_
                    refine W.region rfl ?_
                    refine Ops.y rfl rfl rfl hst.ctx (Y.assignB rfl) ?_
                    refine Ops.done rfl ?_
                    refine W.ret rfl ?_
                    refine ⟨_, Rslt.one Try.results12 rfl, ?_⟩
                    refine ⟨_, rfl, ?_, hst.drop⟩
                    first | exact (decide_eq_true ⟨by unfold HdOk Far; omega, by assumption⟩).symm | exact (decide_eq_false (fun h => by unfold HdOk Far at h; omega)).symm | exact (decide_eq_false (fun h => by have := h.2; contradiction)).symm
                · replace hb39 := of_decide_eq_true hb39.symm
                  refine W.condT rfl rfl ?_
                  refine W.seq rfl ?_
                  refine W.region rfl ?_
                  refine Ops.y rfl rfl rfl hst.ctx (Y.assignB rfl) ?_
                  refine Ops.done rfl ?_
                  refine W.ret rfl ?_
                  refine ⟨_, Rslt.one Try.results12 rfl, ?_⟩
                  refine ⟨_, rfl, ?_, hst.drop⟩
                  first | exact (decide_eq_true ⟨by unfold HdOk Far; omega, by assumption⟩).symm | exact (decide_eq_false (fun h => by unfold HdOk Far at h; omega)).symm | exact (decide_eq_false (fun h => by have := h.2; contradiction)).symm
              · replace hb34 := of_decide_eq_true hb34.symm
                refine Ops.no rfl rfl rfl ?_
                refine Ops.no rfl rfl rfl ?_
                refine Ops.no rfl rfl rfl ?_
                refine Ops.y rfl rfl rfl hst.ctx (Y.pick (.bool _) rfl rfl) ?_
                refine Ops.done rfl ?_
                refine W.condT rfl rfl ?_
                refine W.seq rfl ?_
                refine W.region rfl ?_
                refine Ops.y rfl rfl rfl hst.ctx (Y.assignB rfl) ?_
                refine Ops.done rfl ?_
                refine W.ret rfl ?_
                refine ⟨_, Rslt.one Try.results12 rfl, ?_⟩
                refine ⟨_, rfl, ?_, hst.drop⟩
                first | exact (decide_eq_true ⟨by unfold HdOk Far; omega, by assumption⟩).symm | exact (decide_eq_false (fun h => by unfold HdOk Far at h; omega)).symm | exact (decide_eq_false (fun h => by have := h.2; contradiction)).symm
            · replace hb29 := of_decide_eq_true hb29.symm
              refine Ops.no rfl rfl rfl ?_
              refine Ops.no rfl rfl rfl ?_
              refine Ops.no rfl rfl rfl ?_
              refine Ops.y rfl rfl rfl hst.ctx (Y.pick (.bool _) rfl rfl) ?_
              refine Ops.y rfl rfl rfl hst.ctx (Y.moveB rfl) ?_
              refine Ops.no rfl rfl rfl ?_
              refine Ops.no rfl rfl rfl ?_
              refine Ops.no rfl rfl rfl ?_
              refine Ops.y rfl rfl rfl hst.ctx (Y.pick (.bool _) rfl rfl) ?_
              refine Ops.done rfl ?_
              refine W.condT rfl rfl ?_
              refine W.seq rfl ?_
              refine W.region rfl ?_
              refine Ops.y rfl rfl rfl hst.ctx (Y.assignB rfl) ?_
              refine Ops.done rfl ?_
              refine W.ret rfl ?_
              refine ⟨_, Rslt.one Try.results12 rfl, ?_⟩
              refine ⟨_, rfl, ?_, hst.drop⟩
              first | exact (decide_eq_true ⟨by unfold HdOk Far; omega, by assumption⟩).symm | exact (decide_eq_false (fun h => by unfold HdOk Far at h; omega)).symm | exact (decide_eq_false (fun h => by have := h.2; contradiction)).symm
          · replace hb24 := of_decide_eq_true hb24.symm
            refine Ops.no rfl rfl rfl ?_
            refine Ops.no rfl rfl rfl ?_
            refine Ops.no rfl rfl rfl ?_
            refine Ops.y rfl rfl rfl hst.ctx (Y.pick (.bool _) rfl rfl) ?_
            refine Ops.y rfl rfl rfl hst.ctx (Y.moveB rfl) ?_
            refine Ops.no rfl rfl rfl ?_
            refine Ops.no rfl rfl rfl ?_
            refine Ops.no rfl rfl rfl ?_
            refine Ops.y rfl rfl rfl hst.ctx (Y.pick (.bool _) rfl rfl) ?_
            refine Ops.y rfl rfl rfl hst.ctx (Y.moveB rfl) ?_
            refine Ops.no rfl rfl rfl ?_
            refine Ops.no rfl rfl rfl ?_
            refine Ops.no rfl rfl rfl ?_
            refine Ops.y rfl rfl rfl hst.ctx (Y.pick (.bool _) rfl rfl) ?_
            refine Ops.done rfl ?_
            refine W.condT rfl rfl ?_
            refine W.seq rfl ?_
            refine W.region rfl ?_
            refine Ops.y rfl rfl rfl hst.ctx (Y.assignB rfl) ?_
            refine Ops.done rfl ?_
            refine W.ret rfl ?_
            refine ⟨_, Rslt.one Try.results12 rfl, ?_⟩
            refine ⟨_, rfl, ?_, hst.drop⟩
            first | exact (decide_eq_true ⟨by unfold HdOk Far; omega, by assumption⟩).symm | exact (decide_eq_false (fun h => by unfold HdOk Far at h; omega)).symm | exact (decide_eq_false (fun h => by have := h.2; contradiction)).symm
        · replace hb19 := of_decide_eq_true hb19.symm
          refine Ops.no rfl rfl rfl ?_
          refine Ops.no rfl rfl rfl ?_
          refine Ops.no rfl rfl rfl ?_
          refine Ops.y rfl rfl rfl hst.ctx (Y.pick (.bool _) rfl rfl) ?_
          refine Ops.y rfl rfl rfl hst.ctx (Y.moveB rfl) ?_
          refine Ops.no rfl rfl rfl ?_
          refine Ops.no rfl rfl rfl ?_
          refine Ops.no rfl rfl rfl ?_
          refine Ops.y rfl rfl rfl hst.ctx (Y.pick (.bool _) rfl rfl) ?_
          refine Ops.y rfl rfl rfl hst.ctx (Y.moveB rfl) ?_
          refine Ops.no rfl rfl rfl ?_
          refine Ops.no rfl rfl rfl ?_
          refine Ops.no rfl rfl rfl ?_
          refine Ops.y rfl rfl rfl hst.ctx (Y.pick (.bool _) rfl rfl) ?_
          refine Ops.y rfl rfl rfl hst.ctx (Y.moveB rfl) ?_
          refine Ops.no rfl rfl rfl ?_
          refine Ops.no rfl rfl rfl ?_
          refine Ops.no rfl rfl rfl ?_
          refine Ops.y rfl rfl rfl hst.ctx (Y.pick (.bool _) rfl rfl) ?_
          refine Ops.done rfl ?_
          refine W.condT rfl rfl ?_
          refine W.seq rfl ?_
          refine W.region rfl ?_
          refine Ops.y rfl rfl rfl hst.ctx (Y.assignB rfl) ?_
          refine Ops.done rfl ?_
          refine W.ret rfl ?_
          refine ⟨_, Rslt.one Try.results12 rfl, ?_⟩
          refine ⟨_, rfl, ?_, hst.drop⟩
          first | exact (decide_eq_true ⟨by unfold HdOk Far; omega, by assumption⟩).symm | exact (decide_eq_false (fun h => by unfold HdOk Far at h; omega)).symm | exact (decide_eq_false (fun h => by have := h.2; contradiction)).symm
      · replace hb14 := of_decide_eq_true hb14.symm
        refine Ops.no rfl rfl rfl ?_
        refine Ops.no rfl rfl rfl ?_
        refine Ops.no rfl rfl rfl ?_
        refine Ops.y rfl rfl rfl hst.ctx (Y.pick (.bool _) rfl rfl) ?_
        refine Ops.y rfl rfl rfl hst.ctx (Y.moveB rfl) ?_
        refine Ops.no rfl rfl rfl ?_
        refine Ops.no rfl rfl rfl ?_
        refine Ops.no rfl rfl rfl ?_
        refine Ops.y rfl rfl rfl hst.ctx (Y.pick (.bool _) rfl rfl) ?_
        refine Ops.y rfl rfl rfl hst.ctx (Y.moveB rfl) ?_
        refine Ops.no rfl rfl rfl ?_
        refine Ops.no rfl rfl rfl ?_
        refine Ops.no rfl rfl rfl ?_
        refine Ops.y rfl rfl rfl hst.ctx (Y.pick (.bool _) rfl rfl) ?_
        refine Ops.y rfl rfl rfl hst.ctx (Y.moveB rfl) ?_
        refine Ops.no rfl rfl rfl ?_
        refine Ops.no rfl rfl rfl ?_
        refine Ops.no rfl rfl rfl ?_
        refine Ops.y rfl rfl rfl hst.ctx (Y.pick (.bool _) rfl rfl) ?_
        refine Ops.y rfl rfl rfl hst.ctx (Y.moveB rfl) ?_
        refine Ops.no rfl rfl rfl ?_
        refine Ops.no rfl rfl rfl ?_
        refine Ops.no rfl rfl rfl ?_
        refine Ops.y rfl rfl rfl hst.ctx (Y.pick (.bool _) rfl rfl) ?_
        refine Ops.done rfl ?_
        refine W.condT rfl rfl ?_
        refine W.seq rfl ?_
        refine W.region rfl ?_
        refine Ops.y rfl rfl rfl hst.ctx (Y.assignB rfl) ?_
        refine Ops.done rfl ?_
        refine W.ret rfl ?_
        refine ⟨_, Rslt.one Try.results12 rfl, ?_⟩
        refine ⟨_, rfl, ?_, hst.drop⟩
        first | exact (decide_eq_true ⟨by unfold HdOk Far; omega, by assumption⟩).symm | exact (decide_eq_false (fun h => by unfold HdOk Far at h; omega)).symm | exact (decide_eq_false (fun h => by have := h.2; contradiction)).symm
    · replace hb9 := of_decide_eq_true hb9.symm
      refine Ops.no rfl rfl rfl ?_
      refine Ops.no rfl rfl rfl ?_
      refine Ops.no rfl rfl rfl ?_
      refine Ops.y rfl rfl rfl hst.ctx (Y.pick (.bool _) rfl rfl) ?_
      refine Ops.y rfl rfl rfl hst.ctx (Y.moveB rfl) ?_
      refine Ops.no rfl rfl rfl ?_
      refine Ops.no rfl rfl rfl ?_
      refine Ops.no rfl rfl rfl ?_
      refine Ops.y rfl rfl rfl hst.ctx (Y.pick (.bool _) rfl rfl) ?_
      refine Ops.y rfl rfl rfl hst.ctx (Y.moveB rfl) ?_
      refine Ops.no rfl rfl rfl ?_
      refine Ops.no rfl rfl rfl ?_
      refine Ops.no rfl rfl rfl ?_
      refine Ops.y rfl rfl rfl hst.ctx (Y.pick (.bool _) rfl rfl) ?_
      refine Ops.y rfl rfl rfl hst.ctx (Y.moveB rfl) ?_
      refine Ops.no rfl rfl rfl ?_
      refine Ops.no rfl rfl rfl ?_
      refine Ops.no rfl rfl rfl ?_
      refine Ops.y rfl rfl rfl hst.ctx (Y.pick (.bool _) rfl rfl) ?_
      refine Ops.y rfl rfl rfl hst.ctx (Y.moveB rfl) ?_
      refine Ops.no rfl rfl rfl ?_
      refine Ops.no rfl rfl rfl ?_
      refine Ops.no rfl rfl rfl ?_
      refine Ops.y rfl rfl rfl hst.ctx (Y.pick (.bool _) rfl rfl) ?_
      refine Ops.y rfl rfl rfl hst.ctx (Y.moveB rfl) ?_
      refine Ops.no rfl rfl rfl ?_
      refine Ops.no rfl rfl rfl ?_
      refine Ops.no rfl rfl rfl ?_
      refine Ops.y rfl rfl rfl hst.ctx (Y.pick (.bool _) rfl rfl) ?_
      refine Ops.done rfl ?_
      refine W.condT rfl rfl ?_
      refine W.seq rfl ?_
      refine W.region rfl ?_
      refine Ops.y rfl rfl rfl hst.ctx (Y.assignB rfl) ?_
      refine Ops.done rfl ?_
      refine W.ret rfl ?_
      refine ⟨_, Rslt.one Try.results12 rfl, ?_⟩
      refine ⟨_, rfl, ?_, hst.drop⟩
      first | exact (decide_eq_true ⟨by unfold HdOk Far; omega, by assumption⟩).symm | exact (decide_eq_false (fun h => by unfold HdOk Far at h; omega)).symm | exact (decide_eq_false (fun h => by have := h.2; contradiction)).symm
end Go.Proofs.Ytkbkgpedpaodlaa.W
