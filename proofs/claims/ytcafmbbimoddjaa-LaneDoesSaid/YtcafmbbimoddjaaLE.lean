/- The walks of the statements of layer 8: alive, great, LaneAges. -/
import Derived.Test.YtcafmbbimoddjaaLD
set_option linter.unusedVariables false
set_option linter.unusedSimpArgs false
namespace Go.Proofs.Ytcafmbbimoddjaa.LN
open Go.RowKit Go.Proofs.Ytcafmbbimoddjaa.K
theorem fa28_0 (a : Addr) (w : World) : (Instr.fieldAt 28 (.pointer (some a)) 0).run Try.prog w = .ok (.pointer (some (a.add 0))) w := by
  simp [Instr.fieldAt, Instr.sureAddr, go_sem]
theorem fa28_1 (a : Addr) (w : World) : (Instr.fieldAt 28 (.pointer (some a)) 1).run Try.prog w = .ok (.pointer (some (a.add 1))) w := by
  simp [Instr.fieldAt, Instr.sureAddr, go_sem]
theorem fa28_3 (a : Addr) (w : World) : (Instr.fieldAt 28 (.pointer (some a)) 3).run Try.prog w = .ok (.pointer (some (a.add 3))) w := by
  simp [Instr.fieldAt, Instr.sureAddr, go_sem]
theorem fa38_0 (a : Addr) (w : World) : (Instr.fieldAt 38 (.pointer (some a)) 0).run Try.prog w = .ok (.pointer (some (a.add 0))) w := by
  simp [Instr.fieldAt, Instr.sureAddr, go_sem]
theorem cf7 : ∀ args w, (callFunc 7 args).run Try.prog w = .ok (.enter 7 args) w := fun _ _ => by simp [go_sem]
theorem cf8 : ∀ args w, (callFunc 8 args).run Try.prog w = .ok (.enter 8 args) w := fun _ _ => by simp [go_sem]
theorem cf9 : ∀ args w, (callFunc 9 args).run Try.prog w = .ok (.enter 9 args) w := fun _ _ => by simp [go_sem]
theorem cf10 : ∀ args w, (callFunc 10 args).run Try.prog w = .ok (.enter 10 args) w := fun _ _ => by simp [go_sem]
theorem cf11 : ∀ args w, (callFunc 11 args).run Try.prog w = .ok (.enter 11 args) w := fun _ _ => by simp [go_sem]
theorem cf12 : ∀ args w, (callFunc 12 args).run Try.prog w = .ok (.enter 12 args) w := fun _ _ => by simp [go_sem]
theorem cf14 : ∀ args w, (callFunc 14 args).run Try.prog w = .ok (.enter 14 args) w := fun _ _ => by simp [go_sem]

def a1 : Qs := pushQ q0 3 ⟨#[97]⟩
def a2 : Qs := pushQ a1 3 ⟨#[98]⟩
def a3 : Qs := popQ a2 3
theorem alive_facts : pushE q0 3 ⟨#[97]⟩ = 0 ∧ pushE a1 3 ⟨#[98]⟩ = 0 ∧ popB a2 3 = true ∧ popV a2 3 = (⟨#[97]⟩, 0) ∧ lenQ a3 3 = 1 ∧ gn a3 0 48 = 1 := by
  refine ⟨by decide, by decide, by decide, by rfl, by decide, by decide⟩
theorem alive_any (w0 w : World) (F0 : List Nat) (L G : List Res) (hst : St w0 F0 w L G) :
    Calls Try.prog 7 #[] w fun e w' => e = .returned (.bool true) ∧ St w0 F0 w' L G := by
  obtain ⟨f1, f2, f3, f4, f5, f6⟩ := alive_facts
  refine W.func Try.func7 rfl Try.ntmps7 rfl ?_
  refine W.seq rfl ?_
  refine W.region rfl ?_
  refine Ops.y rfl rfl rfl hst.ctx (Y.assignB rfl) ?_
  refine Ops.done rfl ?_
  refine W.seq rfl ?_
  refine W.region rfl ?_
  refine Ops.x rfl rfl rfl (X.call cf9 rfl ?_)
  refine use_call (New_any _ _ _ _ _ hst) rfl ?_; clear hst; rintro e w1 ⟨b, rfl, hst⟩; refine ⟨_, rfl, ?_⟩
  refine Ops.y rfl rfl rfl hst.ctx (Y.assignP rfl) ?_
  refine Ops.done rfl ?_
  refine W.seq rfl ?_
  refine W.seq rfl ?_
  refine W.region rfl ?_
  refine Ops.y rfl rfl rfl hst.ctx (Y.moveP rfl) ?_
  refine Ops.y rfl rfl rfl hst.ctx (Y.isNil Try.underlying25 rfl rfl) ?_
  refine Ops.y rfl rfl rfl hst.ctx (Y.moveB rfl) ?_
  refine Ops.y rfl rfl rfl hst.ctx (Y.moveP rfl) ?_
  refine Ops.x rfl rfl rfl (X.call cf10 rfl ?_)
  refine use_call (Push_any b _ _ 3 ⟨#[97]⟩ _ _ _ _ _ hst (by decide)) rfl ?_; clear hst; rintro e w2 ⟨rfl, hst⟩; refine ⟨_, rfl, ?_⟩
  refine Ops.yb rfl rfl rfl hst.ctx (Y.neq rfl rfl) (fun b10 hb10 => ?_)
  refine Ops.y rfl rfl rfl hst.ctx (Y.pick (.bool _) rfl rfl) ?_
  refine Ops.y rfl rfl rfl hst.ctx (Y.moveB rfl) ?_
  cases b10
  · replace hb10 := of_decide_eq_false hb10.symm
    refine Ops.y rfl rfl rfl hst.ctx (Y.moveP rfl) ?_
    refine Ops.x rfl rfl rfl (X.call cf10 rfl ?_)
    refine use_call (Push_any b _ _ 3 ⟨#[98]⟩ _ _ _ _ _ hst (by decide)) rfl ?_; clear hst; rintro e w2 ⟨rfl, hst⟩; refine ⟨_, rfl, ?_⟩
    refine Ops.yb rfl rfl rfl hst.ctx (Y.neq rfl rfl) (fun b15 hb15 => ?_)
    refine Ops.y rfl rfl rfl hst.ctx (Y.pick (.bool _) rfl rfl) ?_
    refine Ops.done rfl ?_
    cases b15
    · replace hb15 := of_decide_eq_false hb15.symm
      refine W.condF rfl rfl ?_
      refine W.skip rfl ?_
      refine W.seq rfl ?_
      refine W.region rfl ?_
      refine Ops.y rfl rfl rfl hst.ctx (Y.moveP rfl) ?_
      refine Ops.x rfl rfl rfl (X.call cf14 rfl ?_)
      refine use_call (Pop_any b _ _ 3 _ _ _ _ _ hst (by decide)) rfl ?_; clear hst; rintro e w2 ⟨b19, rfl, hb19, hst⟩; refine ⟨_, rfl, ?_⟩
      refine Ops.y rfl rfl rfl hst.ctx (Y.moveU rfl) ?_
      refine Ops.y rfl rfl rfl hst.ctx (Y.extract rfl rfl) ?_
      refine Ops.y rfl rfl rfl hst.ctx (Y.extract rfl rfl) ?_
      refine Ops.x rfl rfl rfl (X.allocA hst Try.zeroValue38 ?_)
      clear hst; intro p2 w2 hst
      first
      | refine Ops.x rfl rfl rfl (X.storeS hst 0 Try.sizeOf38 rfl rfl rfl rfl rfl (Nat.le_of_ble_eq_true rfl) rfl rfl ?_)
      | refine Ops.x rfl rfl rfl (X.storeS hst 1 Try.sizeOf38 rfl rfl rfl rfl rfl (Nat.le_of_ble_eq_true rfl) rfl rfl ?_)
      clear hst; intro w4_6 hst
      try simp only [List.set_cons_zero, List.set_cons_succ, Nat.zero_add, Nat.reduceAdd, splice, List.take, List.drop, List.append_eq, List.nil_append, List.cons_append, List.length_cons, List.length_nil] at hst
      refine Ops.y rfl rfl rfl hst.ctx (Y.assignB rfl) ?_
      refine Ops.done rfl ?_
      refine W.seq rfl ?_
      refine W.region rfl ?_
      refine Ops.y rfl rfl rfl hst.ctx (Y.moveB rfl) ?_
      refine Ops.y rfl rfl rfl hst.ctx (Y.moveB rfl) ?_
      cases b19
      · replace hb19 := of_decide_eq_false hb19.symm
        exact absurd (of_decide_eq_true f3) hb19
      · replace hb19 := of_decide_eq_true hb19.symm
        first
        | refine Ops.y rfl rfl rfl hst.ctx (Y.fieldAddr fa38_0 rfl) ?_
        | refine Ops.y rfl rfl rfl hst.ctx (Y.fieldAddrP fa38_0 rfl) ?_
        first
        | refine Ops.y rfl rfl rfl hst.ctx (Y.load 0 Try.isAgg9 rfl rfl rfl) ?_
        | refine Ops.y rfl rfl rfl hst.ctx (Y.load 1 Try.isAgg9 rfl rfl rfl) ?_
        refine Ops.yb rfl rfl rfl hst.ctx (Y.eqT rfl rfl) (fun b26 hb26 => ?_)
        refine Ops.y rfl rfl rfl hst.ctx (Y.pick (.bool _) rfl rfl) ?_
        refine Ops.y rfl rfl rfl hst.ctx (Y.moveB rfl) ?_
        cases b26
        · replace hb26 := of_decide_eq_false hb26.symm
          exact absurd (congrArg Prod.fst f4) hb26
        · replace hb26 := of_decide_eq_true hb26.symm
          refine Ops.y rfl rfl rfl hst.ctx (Y.moveP rfl) ?_
          refine Ops.x rfl rfl rfl (X.call cf11 rfl ?_)
          refine use_call (Len_any b _ _ 3 _ _ _ _ _ hst.swap (by decide)) rfl ?_; clear hst; rintro e w2 ⟨rfl, hst⟩; refine ⟨_, rfl, ?_⟩; replace hst := hst.swap
          refine Ops.yb rfl rfl rfl hst.ctx (Y.eql rfl rfl) (fun b31 hb31 => ?_)
          refine Ops.y rfl rfl rfl hst.ctx (Y.pick (.bool _) rfl rfl) ?_
          refine Ops.y rfl rfl rfl hst.ctx (Y.moveB rfl) ?_
          cases b31
          · replace hb31 := of_decide_eq_false hb31.symm
            exact absurd (congrArg Int.ofNat f5) hb31
          · replace hb31 := of_decide_eq_true hb31.symm
            refine Ops.y rfl rfl rfl hst.ctx (Y.moveP rfl) ?_
            refine Ops.x rfl rfl rfl (X.call cf12 rfl ?_)
            refine use_call (Tick_any b _ _ 0 _ _ _ _ _ hst.swap (by decide) (by decide)) rfl ?_; clear hst; rintro e w2 ⟨rfl, hst⟩; refine ⟨_, rfl, ?_⟩; replace hst := hst.swap
            refine Ops.yb rfl rfl rfl hst.ctx (Y.eql rfl rfl) (fun b36 hb36 => ?_)
            refine Ops.y rfl rfl rfl hst.ctx (Y.pick (.bool _) rfl rfl) ?_
            refine Ops.y rfl rfl rfl hst.ctx (Y.assignB rfl) ?_
            refine Ops.done rfl ?_
            refine W.ret rfl ?_
            cases b36
            · replace hb36 := of_decide_eq_false hb36.symm
              exact absurd f6 hb36
            · replace hb36 := of_decide_eq_true hb36.symm
              refine ⟨_, Rslt.one Try.results7 rfl, ?_⟩
              exact ⟨rfl, hst.drop.drop⟩
    · replace hb15 := of_decide_eq_true hb15.symm
      exact absurd f2 hb15
  · replace hb10 := of_decide_eq_true hb10.symm
    exact absurd f1 hb10

set_option maxHeartbeats 1000000 in
theorem great_any (v : Value) (l : List Cl) (w0 w : World) (F0 : List Nat) (L G : List Res) (hst : St w0 F0 w L G) (hr : Rds L G v l.length (ccs l)) (hl : l.length ≤ 9223372036854775807) :
    Calls Try.prog 8 #[v] w fun e w' => ∃ b, e = .returned (.bool b) ∧ (b = false → l.length ≤ 400) ∧ St w0 F0 w' L G := by
  obtain ⟨A, cap, rfl, hcap, -⟩ := hr.sl hst
  refine W.func Try.func8 rfl Try.ntmps8 rfl ?_
  refine W.seq rfl ?_
  refine W.region rfl ?_
  refine Ops.y rfl rfl rfl hst.ctx (Y.assignB rfl) ?_
  refine Ops.done rfl ?_
  refine W.seq rfl ?_
  refine W.region rfl ?_
  refine Ops.y rfl rfl rfl hst.ctx (Y.assignI rfl) ?_
  refine Ops.done rfl ?_
  refine W.seq rfl ?_
  refine W.seq rfl ?_
  refine W.region rfl ?_
  refine Ops.y rfl rfl rfl hst.ctx (Y.moveS rfl) ?_
  refine Ops.y rfl rfl rfl hst.ctx (Y.lenS Try.underlying22 rfl) ?_
  refine Ops.y rfl rfl rfl hst.ctx (Y.moveI rfl) ?_
  refine Ops.done rfl ?_
  refine W.block rfl ?_
  refine W.loop (γ := Nat × Int) [(0, .slice _ _ _), (6, .slice _ _ _), (7, .int _ _)] (fun x => [(3, .int .i64 x.2), (8, .int .i64 (x.1 : Int))]) (fun x w => x.1 ≤ l.length ∧ St w0 F0 w L G) (fun x => l.length - x.1) ((0, 0)) rfl ⟨rfl, rfl, rfl, trivial⟩ ?_ ?_ ?_
  · exact ⟨rfl, rfl, trivial⟩
  · exact ⟨by omega, hst⟩
  · clear hst; rintro ⟨k, n⟩ j w3 ⟨hk, hst⟩
    dsimp only at hk hst ⊢
    refine W.seq rfl ?_
    refine W.region rfl ?_
    refine Ops.yb rfl rfl rfl hst.ctx (Y.lss rfl rfl) (fun b9 hb9 => ?_)
    refine Ops.done rfl ?_
    refine W.seq rfl ?_
    cases b9
    · replace hb9 := of_decide_eq_false hb9.symm
      refine W.condF rfl rfl ?_
      refine W.exit rfl ?_
      refine W.seq rfl ?_
      refine W.region rfl ?_
      refine Ops.y rfl rfl rfl hst.ctx (Y.moveS rfl) ?_
      refine Ops.y rfl rfl rfl hst.ctx (Y.lenS Try.underlying22 rfl) ?_
      refine Ops.yb rfl rfl rfl hst.ctx (Y.gtr rfl rfl) (fun b22 hb22 => ?_)
      refine Ops.y rfl rfl rfl hst.ctx (Y.assignB rfl) ?_
      refine Ops.done rfl ?_
      refine W.ret rfl ?_
      cases b22
      · replace hb22 := of_decide_eq_false hb22.symm
        refine ⟨_, Rslt.one Try.results8 rfl, ?_⟩
        exact ⟨_, rfl, (fun h => by first | omega | cases h), by first | exact hst.drop | exact hst⟩
      · replace hb22 := of_decide_eq_true hb22.symm
        refine ⟨_, Rslt.one Try.results8 rfl, ?_⟩
        exact ⟨_, rfl, (fun h => by first | omega | cases h), by first | exact hst.drop | exact hst⟩
    · replace hb9 := of_decide_eq_true hb9.symm
      refine W.condT rfl rfl ?_
      refine W.skip rfl ?_
      refine W.seq rfl ?_
      refine W.block rfl ?_
      refine W.seq rfl ?_
      refine W.region rfl ?_
      have hk1 : k < l.length := by omega
      refine Ops.y rfl rfl rfl hst.ctx (Y.indexAddr Try.underlying22 Try.sizeOf28 rfl rfl ((hr.sl hst).ne (by rw [ccs_length]; omega)) (by omega)) ?_
      refine Ops.y rfl rfl rfl hst.ctx (Y.loadSlA Try.isAgg28 Try.sizeOf28 rfl hr (ccs_at l k hk1) rfl) ?_
      refine Ops.x rfl rfl rfl (X.allocA hst Try.zeroValue28 ?_)
      clear hst; intro p5 w5 hst
      refine Ops.x rfl rfl rfl (X.storeS hst 0 Try.sizeOf28 rfl rfl rfl rfl rfl (Nat.le_of_ble_eq_true rfl) rfl rfl ?_)
      clear hst; intro w4_3 hst
      try simp only [List.set_cons_zero, List.set_cons_succ, Nat.zero_add, Nat.reduceAdd, splice, List.take, List.drop, List.append_eq, List.nil_append, List.cons_append, List.length_cons, List.length_nil] at hst
      refine Ops.done rfl ?_
      refine W.seq rfl ?_
      refine W.region rfl ?_
      refine Ops.y rfl rfl rfl hst.ctx (Y.moveI rfl) ?_
      first
      | refine Ops.y rfl rfl rfl hst.ctx (Y.fieldAddr fa28_3 rfl) ?_
      | refine Ops.y rfl rfl rfl hst.ctx (Y.fieldAddrP fa28_3 rfl) ?_
      refine Ops.y rfl rfl rfl hst.ctx (Y.load 0 Try.isAgg9 rfl rfl rfl) ?_
      refine Ops.y rfl rfl rfl hst.ctx (Y.lenT Try.underlying9 rfl) ?_
      refine Ops.y rfl rfl rfl hst.ctx (Y.add rfl rfl) ?_
      refine Ops.y rfl rfl rfl hst.ctx (Y.assignI rfl) ?_
      refine Ops.done rfl ?_
      refine W.seq rfl ?_
      refine W.region rfl ?_
      refine Ops.y rfl rfl rfl hst.ctx (Y.moveI rfl) ?_
      refine Ops.yb rfl rfl rfl hst.ctx (Y.gtr rfl rfl) (fun b18 hb18 => ?_)
      refine Ops.done rfl ?_
      cases b18
      · replace hb18 := of_decide_eq_false hb18.symm
        refine W.condF rfl rfl ?_
        refine W.skip rfl ?_
        refine W.region rfl ?_
        refine Ops.y rfl rfl rfl hst.ctx (Y.addI rfl rfl (by omega)) ?_
        refine Ops.y rfl rfl rfl hst.ctx (Y.moveI rfl) ?_
        refine Ops.done rfl ?_
        exact ⟨(k + 1, _), ⟨rfl, rfl, trivial⟩, ⟨rfl, rfl, rfl, trivial⟩, ⟨by dsimp only; omega, hst.drop⟩, by dsimp only; omega⟩
      · replace hb18 := of_decide_eq_true hb18.symm
        refine W.condT rfl rfl ?_
        refine W.seq rfl ?_
        refine W.region rfl ?_
        refine Ops.y rfl rfl rfl hst.ctx (Y.assignB rfl) ?_
        refine Ops.done rfl ?_
        refine W.ret rfl ?_
        refine ⟨_, Rslt.one Try.results8 rfl, ?_⟩
        exact ⟨_, rfl, (fun h => by first | omega | cases h), by first | exact hst.drop | exact hst⟩

set_option maxHeartbeats 4000000 in
theorem LaneAges_walk (v : Value) (l : List Cl) (n : Int) (W1 : World) (hs : Sl W1 v l.length (ccs l)) (hl : l.length ≤ 9223372036854775807) :
    Calls Try.prog 3 #[v, .int .i64 n] W1 fun e w' => e = .returned (.bool true) ∧ Below W1.heap.size W1 w' := by
  have hst := (St.start W1).arg hs
  obtain ⟨A, cap, rfl, hcap, -⟩ := hs
  have hr : Rds [] [slR (.slice A l.length cap) l.length (ccs l)] (.slice A l.length cap) l.length (ccs l) := Rds.slG 0 rfl
  generalize hG : [slR (.slice A l.length cap) l.length (ccs l)] = G at hst hr
  refine W.func Try.func3 rfl Try.ntmps3 rfl ?_
  refine W.seq rfl ?_
  refine W.region rfl ?_
  refine Ops.y rfl rfl rfl hst.ctx (Y.assignB rfl) ?_
  refine Ops.done rfl ?_
  refine W.seq rfl ?_
  refine W.seq rfl ?_
  refine W.region rfl ?_
  refine Ops.x rfl rfl rfl (X.call cf7 rfl ?_)
  refine use_call (alive_any _ _ _ _ _ hst) rfl ?_; clear hst; rintro e w1 ⟨rfl, hst⟩; refine ⟨_, rfl, ?_⟩
  refine Ops.y rfl rfl rfl hst.ctx (Y.not rfl) ?_
  refine Ops.done rfl ?_
  refine W.condF rfl rfl ?_
  refine W.skip rfl ?_
  refine W.seq rfl ?_
  refine W.seq rfl ?_
  refine W.region rfl ?_
  refine Ops.y rfl rfl rfl hst.ctx (Y.moveS rfl) ?_
  refine Ops.x rfl rfl rfl (X.call cf8 rfl ?_)
  refine use_call (great_any _ l _ _ _ _ _ hst hr hl) rfl ?_; clear hst; rintro e w1 ⟨b18, rfl, hgr, hst⟩; generalize hb18 : b18 = c18 at hgr ⊢; refine ⟨_, rfl, ?_⟩
  refine Ops.y rfl rfl rfl hst.ctx (Y.moveB rfl) ?_
  cases c18
  · skip
    refine Ops.y rfl rfl rfl hst.ctx (Y.moveI rfl) ?_
    refine Ops.yb rfl rfl rfl hst.ctx (Y.lss rfl rfl) (fun b21 hb21 => ?_)
    refine Ops.y rfl rfl rfl hst.ctx (Y.pick (.bool _) rfl rfl) ?_
    refine Ops.y rfl rfl rfl hst.ctx (Y.moveB rfl) ?_
    cases b21
    · replace hb21 := of_decide_eq_false hb21.symm
      refine Ops.y rfl rfl rfl hst.ctx (Y.moveI rfl) ?_
      refine Ops.yb rfl rfl rfl hst.ctx (Y.gtr rfl rfl) (fun b25 hb25 => ?_)
      refine Ops.y rfl rfl rfl hst.ctx (Y.pick (.bool _) rfl rfl) ?_
      refine Ops.done rfl ?_
      cases b25
      · replace hb25 := of_decide_eq_false hb25.symm
        refine W.condF rfl rfl ?_
        refine W.skip rfl ?_
        refine W.seq rfl ?_
        refine W.region rfl ?_
        refine Ops.x rfl rfl rfl (X.call cf9 rfl ?_)
        refine use_call (New_any _ _ _ _ _ hst) rfl ?_; clear hst; rintro e w1 ⟨b, rfl, hst⟩; refine ⟨_, rfl, ?_⟩
        refine Ops.y rfl rfl rfl hst.ctx (Y.assignP rfl) ?_
        refine Ops.done rfl ?_
        refine W.seq rfl ?_
        refine W.seq rfl ?_
        refine W.region rfl ?_
        refine Ops.y rfl rfl rfl hst.ctx (Y.moveS rfl) ?_
        refine Ops.y rfl rfl rfl hst.ctx (Y.lenS Try.underlying22 rfl) ?_
        refine Ops.y rfl rfl rfl hst.ctx (Y.moveI rfl) ?_
        refine Ops.done rfl ?_
        refine W.block rfl ?_
        refine W.loop (γ := Nat × Qs) [(1, .int _ _), (5, .pointer _), (28, .slice _ _ _), (29, .int _ _)] (fun x => [(30, .int .i64 (x.1 : Int))]) (fun x w => x.1 ≤ l.length ∧ St W1 [] w (QR b 0 x.2 :: []) G) (fun x => l.length - x.1) ((0, q0)) rfl ⟨rfl, rfl, rfl, rfl, trivial⟩ ?_ ?_ ?_
        · exact ⟨rfl, trivial⟩
        · exact ⟨by omega, hst⟩
        · clear hst; rintro ⟨k, qs⟩ jA w3 ⟨hk, hst⟩
          dsimp only at hk hst ⊢
          refine W.seq rfl ?_
          refine W.region rfl ?_
          refine Ops.yb rfl rfl rfl hst.ctx (Y.lss rfl rfl) (fun b31 hb31 => ?_)
          refine Ops.done rfl ?_
          refine W.seq rfl ?_
          cases b31
          · replace hb31 := of_decide_eq_false hb31.symm
            refine W.condF rfl rfl ?_
            refine W.exit rfl ?_
            refine W.seq rfl ?_
            refine W.region rfl ?_
            refine Ops.y rfl rfl rfl hst.ctx (Y.assignI rfl) ?_
            refine Ops.y rfl rfl rfl hst.ctx (Y.assignI rfl) ?_
            refine Ops.done rfl ?_
            refine W.seq rfl ?_
            refine W.seq rfl ?_
            refine W.region rfl ?_
            refine Ops.y rfl rfl rfl hst.ctx (Y.assignI rfl) ?_
            refine Ops.done rfl ?_
            refine W.block rfl ?_
            refine W.loop (γ := Nat) [(1, .int _ _), (5, .pointer _), (9, .int _ _)] (fun k => [(8, .int .i64 (sumLen qs k : Int)), (10, .int .i64 (k : Int))]) (fun k w => k ≤ 48 ∧ St W1 [] w (QR b 0 qs :: []) G) (fun k => 48 - k) (0) rfl ⟨rfl, rfl, rfl, trivial⟩ ?_ ?_ ?_
            · exact ⟨rfl, rfl, trivial⟩
            · exact ⟨by omega, hst⟩
            · clear hst; rintro k jB w5 ⟨hk, hst⟩
              have hqf := hst.qfacts
              have hsl := sumLen_le hqf.1 hqf.2.1 k hk
              refine W.seq rfl ?_
              refine W.seq rfl ?_
              refine W.region rfl ?_
              refine Ops.y rfl rfl rfl hst.ctx (Y.moveI rfl) ?_
              refine Ops.yb rfl rfl rfl hst.ctx (Y.lss rfl rfl) (fun b45 hb45 => ?_)
              refine Ops.done rfl ?_
              cases b45
              · replace hb45 := of_decide_eq_false hb45.symm
                refine W.condF rfl rfl ?_
                refine W.exit rfl ?_
                refine W.seq rfl ?_
                refine W.seq rfl ?_
                have hk48 : k = 48 := by omega
                subst hk48
                have hqf0 := hst.qfacts
                obtain ⟨nn, rfl⟩ : ∃ nn : Nat, n = (nn : Int) := ⟨n.toNat, by omega⟩
                have hwt : (sumLen qs 48 : Int) = tot qs := by rw [sumLen_tot hqf0.1]
                refine W.region rfl ?_
                refine Ops.y rfl rfl rfl hst.ctx (Y.assignI rfl) ?_
                refine Ops.done rfl ?_
                refine W.block rfl ?_
                refine W.loop (γ := Nat × Qs) [(1, .int _ _), (5, .pointer _), (8, .int _ _)] (fun x => [(9, .int .i64 (if x.1 ≤ nn then 0 else (tot qs : Int))), (11, .int .i64 (x.1 : Int))]) (fun x w => x.1 ≤ nn + 1 ∧ (x.1 ≤ nn → (∀ q ∈ x.2, ∀ y ∈ q, y.2 = (x.1 : Int)) ∧ tot x.2 = tot qs) ∧ (nn < x.1 → tot x.2 = 0) ∧ St W1 [] w (QR b (x.1 : Int) x.2 :: []) G) (fun x => nn + 1 - x.1) ((0, qs)) rfl ⟨rfl, rfl, rfl, trivial⟩ ?_ ?_ ?_
                · exact ⟨congrArg (Value.int .i64) (if_pos (Nat.zero_le _)).symm, rfl, trivial⟩
                · exact ⟨by dsimp only; omega, fun _ => ⟨fun q hq y hy => by have := hqf0.2.2 q hq y hy; dsimp only; omega, rfl⟩, fun h => by dsimp only at h; omega, hst⟩
                · clear hst; rintro ⟨i, qt⟩ jC w6 ⟨hi, hA, hB, hst⟩
                  dsimp only at hi hA hB hst ⊢
                  refine W.seq rfl ?_
                  refine W.seq rfl ?_
                  refine W.region rfl ?_
                  refine Ops.y rfl rfl rfl hst.ctx (Y.moveI rfl) ?_
                  refine Ops.y rfl rfl rfl hst.ctx (Y.moveI rfl) ?_
                  refine Ops.yb rfl rfl rfl hst.ctx (Y.leq rfl rfl) (fun b55 hb55 => ?_)
                  refine Ops.done rfl ?_
                  cases b55
                  · replace hb55 := of_decide_eq_false hb55.symm
                    refine W.condF rfl rfl ?_
                    refine W.exit rfl ?_
                    refine W.seq rfl ?_
                    refine W.seq rfl ?_
                    have hi2 : i = nn + 1 := by omega
                    subst hi2
                    have hT0 := hB (by omega)
                    refine W.region rfl ?_
                    refine Ops.y rfl rfl rfl hst.ctx (Y.assignI rfl) ?_
                    refine Ops.done rfl ?_
                    refine W.block rfl ?_
                    refine W.loop (γ := Nat) [(5, .pointer _), (8, .int _ _), (9, .int _ _)] (fun k => [(14, .int .i64 (k : Int))]) (fun k w => k ≤ 48 ∧ St W1 [] w (QR b ((nn + 1 : Nat) : Int) qt :: []) G) (fun k => 48 - k) (0) rfl ⟨rfl, rfl, rfl, trivial⟩ ?_ ?_ ?_
                    · exact ⟨rfl, trivial⟩
                    · exact ⟨by omega, hst⟩
                    · clear hst; rintro k jE w7 ⟨hk, hst⟩
                      have hqf := hst.qfacts
                      refine W.seq rfl ?_
                      refine W.seq rfl ?_
                      refine W.region rfl ?_
                      refine Ops.y rfl rfl rfl hst.ctx (Y.moveI rfl) ?_
                      refine Ops.yb rfl rfl rfl hst.ctx (Y.lss rfl rfl) (fun b79 hb79 => ?_)
                      refine Ops.done rfl ?_
                      cases b79
                      · replace hb79 := of_decide_eq_false hb79.symm
                        refine W.condF rfl rfl ?_
                        refine W.exit rfl ?_
                        refine W.seq rfl ?_
                        refine W.region rfl ?_
                        refine Ops.y rfl rfl rfl hst.ctx (Y.moveI rfl) ?_
                        refine Ops.y rfl rfl rfl hst.ctx (Y.moveI rfl) ?_
                        refine Ops.yb rfl rfl rfl hst.ctx (Y.eql rfl rfl) (fun b88 hb88 => ?_)
                        refine Ops.y rfl rfl rfl hst.ctx (Y.assignB rfl) ?_
                        refine Ops.done rfl ?_
                        refine W.ret rfl ?_
                        cases b88
                        · replace hb88 := of_decide_eq_false hb88.symm
                          exact absurd (by rw [if_neg (by omega)]; exact hwt.symm) hb88
                        · replace hb88 := of_decide_eq_true hb88.symm
                          refine ⟨_, Rslt.one Try.results3 rfl, ?_⟩
                          exact ⟨rfl, by first | exact hst.below | exact hst.drop.below⟩
                      · replace hb79 := of_decide_eq_true hb79.symm
                        refine W.condT rfl rfl ?_
                        refine W.skip rfl ?_
                        refine W.seq rfl ?_
                        refine W.block rfl ?_
                        refine W.seq rfl ?_
                        refine W.region rfl ?_
                        refine Ops.y rfl rfl rfl hst.ctx (Y.moveP rfl) ?_
                        refine Ops.y rfl rfl rfl hst.ctx (Y.moveI rfl) ?_
                        refine Ops.x rfl rfl rfl (X.call cf11 rfl ?_)
                        refine use_call (Len_any b _ _ _ _ _ _ _ _ hst (by omega)) rfl ?_; clear hst; rintro e w4 ⟨rfl, hst⟩; refine ⟨_, rfl, ?_⟩
                        refine Ops.yb rfl rfl rfl hst.ctx (Y.neq rfl rfl) (fun b85 hb85 => ?_)
                        refine Ops.done rfl ?_
                        cases b85
                        · replace hb85 := of_decide_eq_false hb85.symm
                          refine W.condF rfl rfl ?_
                          refine W.skip rfl ?_
                          refine W.region rfl ?_
                          refine Ops.y rfl rfl rfl hst.ctx (Y.moveI rfl) ?_
                          refine Ops.y rfl rfl rfl hst.ctx (Y.addI rfl rfl (by omega)) ?_
                          refine Ops.y rfl rfl rfl hst.ctx (Y.assignI rfl) ?_
                          refine Ops.done rfl ?_
                          exact ⟨k + 1, ⟨rfl, trivial⟩, ⟨rfl, rfl, rfl, trivial⟩, ⟨by omega, hst⟩, by omega⟩
                        · replace hb85 := of_decide_eq_true hb85.symm
                          exact absurd (by rw [len_none hqf.1 hT0 (by omega)]; rfl) hb85
                  · replace hb55 := of_decide_eq_true hb55.symm
                    refine W.condT rfl rfl ?_
                    refine W.skip rfl ?_
                    refine W.seq rfl ?_
                    refine W.block rfl ?_
                    refine W.seq rfl ?_
                    refine W.seq rfl ?_
                    refine W.region rfl ?_
                    have hi1 : i ≤ nn := by omega
                    obtain ⟨hag, htt⟩ := hA hi1
                    refine Ops.y rfl rfl rfl hst.ctx (Y.moveI rfl) ?_
                    refine Ops.y rfl rfl rfl hst.ctx (Y.moveI rfl) ?_
                    refine Ops.yb rfl rfl rfl hst.ctx (Y.eql rfl rfl) (fun b60 hb60 => ?_)
                    refine Ops.done rfl ?_
                    cases b60
                    · replace hb60 := of_decide_eq_false hb60.symm
                      refine W.condF rfl rfl ?_
                      refine W.skip rfl ?_
                      refine W.region rfl ?_
                      have hqf := hst.qfacts
                      have hgt := gn_tot hqf.1 (nn : Int)
                      have htl := tot_le hqf.1 hqf.2.1
                      have htk := tot_tick_le qt (nn : Int)
                      refine Ops.y rfl rfl rfl hst.ctx (Y.moveI rfl) ?_
                      refine Ops.y rfl rfl rfl hst.ctx (Y.moveP rfl) ?_
                      refine Ops.y rfl rfl rfl hst.ctx (Y.moveI rfl) ?_
                      refine Ops.x rfl rfl rfl (X.call cf12 rfl ?_)
                      refine use_call (Tick_any b _ qt (nn : Int) _ _ _ _ _ hst (by omega) (by omega)) rfl ?_; clear hst; rintro e w2 ⟨rfl, hst⟩; refine ⟨_, rfl, ?_⟩
                      refine Ops.y rfl rfl rfl hst.ctx (Y.addI rfl rfl (by omega)) ?_
                      refine Ops.y rfl rfl rfl hst.ctx (Y.assignI rfl) ?_
                      refine Ops.done rfl ?_
                      refine W.region rfl ?_
                      refine Ops.y rfl rfl rfl hst.ctx (Y.moveI rfl) ?_
                      refine Ops.y rfl rfl rfl hst.ctx (Y.addI rfl rfl (by omega)) ?_
                      refine Ops.y rfl rfl rfl hst.ctx (Y.assignI rfl) ?_
                      refine Ops.done rfl ?_
                      first
                      | (have hin : i + 1 ≤ nn := by omega
                         have hts := tick_stay hag (show (i : Int) + 1 ≤ (nn : Int) by omega)
                         have htt2 : tot (tickQ qt (nn : Int)) = tot qt := by rw [hts, tot_older]
                         have hg9 : Value.int .i64 ((if i ≤ nn then 0 else (tot qs : Int)) + gn qt (nn : Int) 48) = Value.int .i64 (if i + 1 ≤ nn then 0 else (tot qs : Int)) := congrArg (Value.int .i64) (by rw [if_pos hi1, if_pos hin, hgt, htt2]; omega)
                         exact ⟨(i + 1, tickQ qt (nn : Int)), ⟨hg9, rfl, trivial⟩, ⟨rfl, rfl, rfl, trivial⟩, ⟨by dsimp only; omega, fun _ => ⟨by dsimp only; rw [hts]; exact older_age hag, by dsimp only; rw [htt2, htt]⟩, fun h => by dsimp only at h; omega, hst⟩, by dsimp only; omega⟩)
                      | (have hin : ¬ i + 1 ≤ nn := by omega
                         have hts := tick_gone hag (show (nn : Int) < (i : Int) + 1 by omega)
                         have htt2 : tot (tickQ qt (nn : Int)) = 0 := by rw [hts, tot_none]
                         have hg9 : Value.int .i64 ((if i ≤ nn then 0 else (tot qs : Int)) + gn qt (nn : Int) 48) = Value.int .i64 (if i + 1 ≤ nn then 0 else (tot qs : Int)) := congrArg (Value.int .i64) (by rw [if_pos hi1, if_neg hin, hgt, htt2, htt]; omega)
                         exact ⟨(i + 1, tickQ qt (nn : Int)), ⟨hg9, rfl, trivial⟩, ⟨rfl, rfl, rfl, trivial⟩, ⟨by dsimp only; omega, fun h => by dsimp only at h; omega, fun _ => htt2, hst⟩, by dsimp only; omega⟩)
                    · replace hb60 := of_decide_eq_true hb60.symm
                      refine W.condT rfl rfl ?_
                      refine W.seq rfl ?_
                      refine W.region rfl ?_
                      refine Ops.y rfl rfl rfl hst.ctx (Y.assignI rfl) ?_
                      refine Ops.done rfl ?_
                      refine W.seq rfl ?_
                      refine W.seq rfl ?_
                      refine W.region rfl ?_
                      refine Ops.y rfl rfl rfl hst.ctx (Y.assignI rfl) ?_
                      refine Ops.done rfl ?_
                      refine W.block rfl ?_
                      refine W.loop (γ := Nat) [(1, .int _ _), (5, .pointer _), (8, .int _ _), (9, .int _ _), (11, .int _ _)] (fun k => [(12, .int .i64 (sumLen qt k : Int)), (13, .int .i64 (k : Int))]) (fun k w => k ≤ 48 ∧ St W1 [] w (QR b (i : Int) qt :: []) G) (fun k => 48 - k) (0) rfl ⟨rfl, rfl, rfl, rfl, rfl, trivial⟩ ?_ ?_ ?_
                      · exact ⟨rfl, rfl, trivial⟩
                      · exact ⟨by omega, hst⟩
                      · clear hst; rintro k jD w5 ⟨hk, hst⟩
                        have hqf := hst.qfacts
                        have hsl := sumLen_le hqf.1 hqf.2.1 k hk
                        refine W.seq rfl ?_
                        refine W.seq rfl ?_
                        refine W.region rfl ?_
                        refine Ops.y rfl rfl rfl hst.ctx (Y.moveI rfl) ?_
                        refine Ops.yb rfl rfl rfl hst.ctx (Y.lss rfl rfl) (fun b62 hb62 => ?_)
                        refine Ops.done rfl ?_
                        cases b62
                        · replace hb62 := of_decide_eq_false hb62.symm
                          refine W.condF rfl rfl ?_
                          refine W.exit rfl ?_
                          refine W.seq rfl ?_
                          have hk48 : k = 48 := by omega
                          subst hk48
                          have hst48 := sumLen_tot hqf.1
                          refine W.region rfl ?_
                          refine Ops.y rfl rfl rfl hst.ctx (Y.moveI rfl) ?_
                          refine Ops.y rfl rfl rfl hst.ctx (Y.moveI rfl) ?_
                          refine Ops.yb rfl rfl rfl hst.ctx (Y.neq rfl rfl) (fun b72 hb72 => ?_)
                          refine Ops.done rfl ?_
                          cases b72
                          · replace hb72 := of_decide_eq_false hb72.symm
                            refine W.condF rfl rfl ?_
                            refine W.skip rfl ?_
                            refine W.region rfl ?_
                            have hqf := hst.qfacts
                            have hgt := gn_tot hqf.1 (nn : Int)
                            have htl := tot_le hqf.1 hqf.2.1
                            have htk := tot_tick_le qt (nn : Int)
                            refine Ops.y rfl rfl rfl hst.ctx (Y.moveI rfl) ?_
                            refine Ops.y rfl rfl rfl hst.ctx (Y.moveP rfl) ?_
                            refine Ops.y rfl rfl rfl hst.ctx (Y.moveI rfl) ?_
                            refine Ops.x rfl rfl rfl (X.call cf12 rfl ?_)
                            refine use_call (Tick_any b _ qt (nn : Int) _ _ _ _ _ hst (by omega) (by omega)) rfl ?_; clear hst; rintro e w2 ⟨rfl, hst⟩; refine ⟨_, rfl, ?_⟩
                            refine Ops.y rfl rfl rfl hst.ctx (Y.addI rfl rfl (by omega)) ?_
                            refine Ops.y rfl rfl rfl hst.ctx (Y.assignI rfl) ?_
                            refine Ops.done rfl ?_
                            refine W.region rfl ?_
                            refine Ops.y rfl rfl rfl hst.ctx (Y.moveI rfl) ?_
                            refine Ops.y rfl rfl rfl hst.ctx (Y.addI rfl rfl (by omega)) ?_
                            refine Ops.y rfl rfl rfl hst.ctx (Y.assignI rfl) ?_
                            refine Ops.done rfl ?_
                            first
                            | (have hin : i + 1 ≤ nn := by omega
                               have hts := tick_stay hag (show (i : Int) + 1 ≤ (nn : Int) by omega)
                               have htt2 : tot (tickQ qt (nn : Int)) = tot qt := by rw [hts, tot_older]
                               have hg9 : Value.int .i64 ((if i ≤ nn then 0 else (tot qs : Int)) + gn qt (nn : Int) 48) = Value.int .i64 (if i + 1 ≤ nn then 0 else (tot qs : Int)) := congrArg (Value.int .i64) (by rw [if_pos hi1, if_pos hin, hgt, htt2]; omega)
                               exact ⟨(i + 1, tickQ qt (nn : Int)), ⟨hg9, rfl, trivial⟩, ⟨rfl, rfl, rfl, trivial⟩, ⟨by dsimp only; omega, fun _ => ⟨by dsimp only; rw [hts]; exact older_age hag, by dsimp only; rw [htt2, htt]⟩, fun h => by dsimp only at h; omega, hst⟩, by dsimp only; omega⟩)
                            | (have hin : ¬ i + 1 ≤ nn := by omega
                               have hts := tick_gone hag (show (nn : Int) < (i : Int) + 1 by omega)
                               have htt2 : tot (tickQ qt (nn : Int)) = 0 := by rw [hts, tot_none]
                               have hg9 : Value.int .i64 ((if i ≤ nn then 0 else (tot qs : Int)) + gn qt (nn : Int) 48) = Value.int .i64 (if i + 1 ≤ nn then 0 else (tot qs : Int)) := congrArg (Value.int .i64) (by rw [if_pos hi1, if_neg hin, hgt, htt2, htt]; omega)
                               exact ⟨(i + 1, tickQ qt (nn : Int)), ⟨hg9, rfl, trivial⟩, ⟨rfl, rfl, rfl, trivial⟩, ⟨by dsimp only; omega, fun h => by dsimp only at h; omega, fun _ => htt2, hst⟩, by dsimp only; omega⟩)
                          · replace hb72 := of_decide_eq_true hb72.symm
                            exact absurd (by rw [hst48, htt]; exact hwt.symm) hb72
                        · replace hb62 := of_decide_eq_true hb62.symm
                          refine W.condT rfl rfl ?_
                          refine W.skip rfl ?_
                          refine W.seq rfl ?_
                          refine W.block rfl ?_
                          refine W.region rfl ?_
                          have hk1 : k < 48 := by omega
                          have hlq := hqf.2.1 _ (getD_memQ (k := k) (by omega))
                          rw [← lenQ_nat hk1] at hlq
                          refine Ops.y rfl rfl rfl hst.ctx (Y.moveI rfl) ?_
                          refine Ops.y rfl rfl rfl hst.ctx (Y.moveP rfl) ?_
                          refine Ops.y rfl rfl rfl hst.ctx (Y.moveI rfl) ?_
                          refine Ops.x rfl rfl rfl (X.call cf11 rfl ?_)
                          refine use_call (Len_any b _ _ _ _ _ _ _ _ hst (by omega)) rfl ?_; clear hst; rintro e w4 ⟨rfl, hst⟩; refine ⟨_, rfl, ?_⟩
                          refine Ops.y rfl rfl rfl hst.ctx (Y.addI rfl rfl (by omega)) ?_
                          refine Ops.y rfl rfl rfl hst.ctx (Y.assignI rfl) ?_
                          refine Ops.done rfl ?_
                          refine W.region rfl ?_
                          refine Ops.y rfl rfl rfl hst.ctx (Y.moveI rfl) ?_
                          refine Ops.y rfl rfl rfl hst.ctx (Y.addI rfl rfl (by omega)) ?_
                          refine Ops.y rfl rfl rfl hst.ctx (Y.assignI rfl) ?_
                          refine Ops.done rfl ?_
                          exact ⟨k + 1, ⟨congrArg (Value.int .i64) (show (sumLen qt k : Int) + (lenQ qt (k : Int) : Int) = (sumLen qt (k + 1) : Int) by simp only [sumLen]; omega), rfl, trivial⟩, ⟨rfl, rfl, rfl, rfl, rfl, trivial⟩, ⟨by omega, hst⟩, by omega⟩
              · replace hb45 := of_decide_eq_true hb45.symm
                refine W.condT rfl rfl ?_
                refine W.skip rfl ?_
                refine W.seq rfl ?_
                refine W.block rfl ?_
                refine W.region rfl ?_
                have hk1 : k < 48 := by omega
                have hlq := hqf.2.1 _ (getD_memQ (k := k) (by omega))
                rw [← lenQ_nat hk1] at hlq
                refine Ops.y rfl rfl rfl hst.ctx (Y.moveI rfl) ?_
                refine Ops.y rfl rfl rfl hst.ctx (Y.moveP rfl) ?_
                refine Ops.y rfl rfl rfl hst.ctx (Y.moveI rfl) ?_
                refine Ops.x rfl rfl rfl (X.call cf11 rfl ?_)
                refine use_call (Len_any b _ _ _ _ _ _ _ _ hst (by decide)) rfl ?_; clear hst; rintro e w4 ⟨rfl, hst⟩; refine ⟨_, rfl, ?_⟩
                refine Ops.y rfl rfl rfl hst.ctx (Y.addI rfl rfl (by omega)) ?_
                refine Ops.y rfl rfl rfl hst.ctx (Y.assignI rfl) ?_
                refine Ops.done rfl ?_
                refine W.region rfl ?_
                refine Ops.y rfl rfl rfl hst.ctx (Y.moveI rfl) ?_
                refine Ops.y rfl rfl rfl hst.ctx (Y.addI rfl rfl (by omega)) ?_
                refine Ops.y rfl rfl rfl hst.ctx (Y.assignI rfl) ?_
                refine Ops.done rfl ?_
                exact ⟨k + 1, ⟨congrArg (Value.int .i64) (show (sumLen qs k : Int) + (lenQ qs (k : Int) : Int) = (sumLen qs (k + 1) : Int) by simp only [sumLen]; omega), rfl, trivial⟩, ⟨rfl, rfl, rfl, trivial⟩, ⟨by omega, hst⟩, by omega⟩
          · replace hb31 := of_decide_eq_true hb31.symm
            refine W.condT rfl rfl ?_
            refine W.skip rfl ?_
            refine W.seq rfl ?_
            refine W.block rfl ?_
            refine W.seq rfl ?_
            refine W.region rfl ?_
            have hk1 : k < l.length := by omega
            refine Ops.y rfl rfl rfl hst.ctx (Y.indexAddr Try.underlying22 Try.sizeOf28 rfl rfl (((hr.cons _).sl hst).ne (by rw [ccs_length]; omega)) (by omega)) ?_
            refine Ops.y rfl rfl rfl hst.ctx (Y.loadSlA Try.isAgg28 Try.sizeOf28 rfl (hr.cons _) (ccs_at l k hk1) rfl) ?_
            refine Ops.x rfl rfl rfl (X.allocA hst Try.zeroValue28 ?_)
            clear hst; intro p7 w7 hst
            first
            | refine Ops.x rfl rfl rfl (X.storeS hst 0 Try.sizeOf28 rfl rfl rfl rfl rfl (Nat.le_of_ble_eq_true rfl) rfl rfl ?_)
            | refine Ops.x rfl rfl rfl (X.storeS hst 1 Try.sizeOf28 rfl rfl rfl rfl rfl (Nat.le_of_ble_eq_true rfl) rfl rfl ?_)
            clear hst; intro w8_3 hst
            try simp only [List.set_cons_zero, List.set_cons_succ, Nat.zero_add, Nat.reduceAdd, splice, List.take, List.drop, List.append_eq, List.nil_append, List.cons_append, List.length_cons, List.length_nil] at hst
            refine Ops.done rfl ?_
            refine W.seq rfl ?_
            refine W.region rfl ?_
            first
            | refine Ops.y rfl rfl rfl hst.ctx (Y.fieldAddr fa28_0 rfl) ?_
            | refine Ops.y rfl rfl rfl hst.ctx (Y.fieldAddrP fa28_0 rfl) ?_
            first
            | refine Ops.y rfl rfl rfl hst.ctx (Y.load 0 Try.isAgg3 rfl rfl rfl) ?_
            | refine Ops.y rfl rfl rfl hst.ctx (Y.load 1 Try.isAgg3 rfl rfl rfl) ?_
            refine Ops.yb rfl rfl rfl hst.ctx (Y.eql rfl rfl) (fun b36 hb36 => ?_)
            refine Ops.done rfl ?_
            cases b36
            · replace hb36 := of_decide_eq_false hb36.symm
              refine W.condF rfl rfl ?_
              refine W.skip rfl ?_
              refine W.region rfl ?_
              refine Ops.y rfl rfl rfl hst.ctx (Y.addI rfl rfl (by omega)) ?_
              refine Ops.y rfl rfl rfl hst.ctx (Y.moveI rfl) ?_
              refine Ops.done rfl ?_
              exact ⟨(k + 1, qs), ⟨rfl, trivial⟩, ⟨rfl, rfl, rfl, rfl, trivial⟩, ⟨by dsimp only; omega, hst.drop⟩, by dsimp only; omega⟩
            · replace hb36 := of_decide_eq_true hb36.symm
              refine W.condT rfl rfl ?_
              refine W.region rfl ?_
              refine Ops.y rfl rfl rfl hst.ctx (Y.moveP rfl) ?_
              first
              | refine Ops.y rfl rfl rfl hst.ctx (Y.fieldAddr fa28_1 rfl) ?_
              | refine Ops.y rfl rfl rfl hst.ctx (Y.fieldAddrP fa28_1 rfl) ?_
              first
              | refine Ops.y rfl rfl rfl hst.ctx (Y.load 0 Try.isAgg3 rfl rfl rfl) ?_
              | refine Ops.y rfl rfl rfl hst.ctx (Y.load 1 Try.isAgg3 rfl rfl rfl) ?_
              first
              | refine Ops.y rfl rfl rfl hst.ctx (Y.fieldAddr fa28_3 rfl) ?_
              | refine Ops.y rfl rfl rfl hst.ctx (Y.fieldAddrP fa28_3 rfl) ?_
              first
              | refine Ops.y rfl rfl rfl hst.ctx (Y.load 0 Try.isAgg9 rfl rfl rfl) ?_
              | refine Ops.y rfl rfl rfl hst.ctx (Y.load 1 Try.isAgg9 rfl rfl rfl) ?_
              refine Ops.x rfl rfl rfl (X.call cf10 rfl ?_)
              refine use_call (Push_any b _ qs _ _ _ _ _ _ _ hst.swap (by decide)) rfl ?_; clear hst; rintro e w2 ⟨rfl, hst⟩; refine ⟨_, rfl, ?_⟩; replace hst := hst.swap
              refine Ops.done rfl ?_
              refine W.region rfl ?_
              refine Ops.y rfl rfl rfl hst.ctx (Y.addI rfl rfl (by omega)) ?_
              refine Ops.y rfl rfl rfl hst.ctx (Y.moveI rfl) ?_
              refine Ops.done rfl ?_
              exact ⟨(k + 1, pushQ qs _ _), ⟨rfl, trivial⟩, ⟨rfl, rfl, rfl, rfl, trivial⟩, ⟨by dsimp only; omega, hst.drop⟩, by dsimp only; omega⟩
      · replace hb25 := of_decide_eq_true hb25.symm
        refine W.condT rfl rfl ?_
        refine W.seq rfl ?_
        refine W.region rfl ?_
        refine Ops.y rfl rfl rfl hst.ctx (Y.assignB rfl) ?_
        refine Ops.done rfl ?_
        refine W.ret rfl ?_
        refine ⟨_, Rslt.one Try.results3 rfl, ?_⟩
        exact ⟨rfl, by first | exact hst.below | exact hst.drop.below⟩
    · replace hb21 := of_decide_eq_true hb21.symm
      refine Ops.no rfl rfl rfl ?_
      refine Ops.no rfl rfl rfl ?_
      refine Ops.y rfl rfl rfl hst.ctx (Y.pick (.bool _) rfl rfl) ?_
      refine Ops.done rfl ?_
      refine W.condT rfl rfl ?_
      refine W.seq rfl ?_
      refine W.region rfl ?_
      refine Ops.y rfl rfl rfl hst.ctx (Y.assignB rfl) ?_
      refine Ops.done rfl ?_
      refine W.ret rfl ?_
      refine ⟨_, Rslt.one Try.results3 rfl, ?_⟩
      exact ⟨rfl, by first | exact hst.below | exact hst.drop.below⟩
  · skip
    refine Ops.no rfl rfl rfl ?_
    refine Ops.no rfl rfl rfl ?_
    refine Ops.y rfl rfl rfl hst.ctx (Y.pick (.bool _) rfl rfl) ?_
    refine Ops.y rfl rfl rfl hst.ctx (Y.moveB rfl) ?_
    refine Ops.no rfl rfl rfl ?_
    refine Ops.no rfl rfl rfl ?_
    refine Ops.y rfl rfl rfl hst.ctx (Y.pick (.bool _) rfl rfl) ?_
    refine Ops.done rfl ?_
    refine W.condT rfl rfl ?_
    refine W.seq rfl ?_
    refine W.region rfl ?_
    refine Ops.y rfl rfl rfl hst.ctx (Y.assignB rfl) ?_
    refine Ops.done rfl ?_
    refine W.ret rfl ?_
    refine ⟨_, Rslt.one Try.results3 rfl, ?_⟩
    exact ⟨rfl, by first | exact hst.below | exact hst.drop.below⟩
end Go.Proofs.Ytcafmbbimoddjaa.LN
