/- The walk of LaneDoes. -/
import Derived.Test.YtcafmbbimoddjaaLT
set_option linter.unusedVariables false
set_option linter.unusedSimpArgs false
namespace Go.Proofs.Ytcafmbbimoddjaa.LN
open Go.RowKit Go.Proofs.Ytcafmbbimoddjaa.K
theorem bd36_ {S ρ ty} {parts : Array (Nat × Operand)}  (hp : (parts.toList.map fun x => (x.1, ev ρ x.2)) = []) : Y Try.prog S ρ (.build 36 parts) ty (.agg #[Value.slice none 0 0]) :=
  Y.build hp fun w => by simp [Instr.build, go_sem]
theorem fa28_2 (a : Addr) (w : World) : (Instr.fieldAt 28 (.pointer (some a)) 2).run Try.prog w = .ok (.pointer (some (a.add 2))) w := by
  simp [Instr.fieldAt, Instr.sureAddr, go_sem]
theorem fa42_1 (a : Addr) (w : World) : (Instr.fieldAt 42 (.pointer (some a)) 1).run Try.prog w = .ok (.pointer (some (a.add 1))) w := by
  simp [Instr.fieldAt, Instr.sureAddr, go_sem]
theorem cf13 : ∀ args w, (callFunc 13 args).run Try.prog w = .ok (.enter 13 args) w := fun _ _ => by simp [go_sem]
theorem cf16 : ∀ args w, (callFunc 16 args).run Try.prog w = .ok (.enter 16 args) w := fun _ _ => by simp [go_sem]
theorem cf18 : ∀ args w, (callFunc 18 args).run Try.prog w = .ok (.enter 18 args) w := fun _ _ => by simp [go_sem]

theorem slNil {w0 w : World} {F0 : List Nat} {L G : List Res} (h : St w0 F0 w L G) : St w0 F0 w (slR (.slice none 0 0) 0 [] :: L) G :=
  St.turn (L1 := []) (L2 := [slR (.slice none 0 0) 0 []]) h (by simp [slR]) (by simp [slR]) (by intro r hr; simp at hr; subst hr; exact Sl.nil w)
set_option maxHeartbeats 8000000 in
theorem LaneDoes_walk (v : Value) (l : List Cl) (W1 : World) (hs : Sl W1 v l.length (ccs l)) (hl : l.length ≤ 9223372036854775807) :
    Calls Try.prog 4 #[v] W1 fun e w' => e = .returned (.bool true) ∧ Below W1.heap.size W1 w' := by
  have hst := (St.start W1).arg hs
  obtain ⟨A, cap, rfl, hcap, -⟩ := hs
  have hr : Rds [] [slR (.slice A l.length cap) l.length (ccs l)] (.slice A l.length cap) l.length (ccs l) := Rds.slG 0 rfl
  generalize hG : [slR (.slice A l.length cap) l.length (ccs l)] = G at hst hr
  refine W.func Try.func4 rfl Try.ntmps4 rfl ?_
  refine W.seq rfl ?_
  refine W.region rfl ?_
  refine Ops.y rfl rfl rfl hst.ctx (Y.assignB rfl) ?_
  refine Ops.done rfl ?_
  refine W.seq rfl ?_
  refine W.seq rfl ?_
  refine W.region rfl ?_
  refine Ops.x rfl rfl rfl (X.call cf7 rfl ?_)
  refine use_call (alive_any _ _ _ _ _ hst) rfl ?_; clear hst; rintro e w1 ⟨rfl, hst⟩; refine ⟨_, rfl, ?_⟩
  refine Ops.y rfl rfl rfl hst.ctx (Y.not rfl) ?_
  refine Ops.done rfl ?_
  refine W.condF rfl rfl ?_
  refine W.skip rfl ?_
  refine W.seq rfl ?_
  refine W.seq rfl ?_
  refine W.region rfl ?_
  refine Ops.y rfl rfl rfl hst.ctx (Y.moveS rfl) ?_
  refine Ops.x rfl rfl rfl (X.call cf8 rfl ?_)
  refine use_call (great_any _ l _ _ _ _ _ hst hr hl) rfl ?_; clear hst; rintro e w1 ⟨b17, rfl, hgr, hst⟩; generalize hb17 : b17 = c17 at hgr ⊢; refine ⟨_, rfl, ?_⟩
  refine Ops.done rfl ?_
  cases c17
  · skip
    refine W.condF rfl rfl ?_
    refine W.skip rfl ?_
    refine W.seq rfl ?_
    refine W.region rfl ?_
    refine Ops.x rfl rfl rfl (X.call cf9 rfl ?_)
    refine use_call (New_any _ _ _ _ _ hst) rfl ?_; clear hst; rintro e w1 ⟨bl, rfl, hst⟩; refine ⟨_, rfl, ?_⟩
    refine Ops.y rfl rfl rfl hst.ctx (bd36_ rfl) ?_
    refine Ops.x rfl rfl rfl (X.boxA hst rfl ?_)
    clear hst; intro p20 w20 hst
    refine Ops.y rfl rfl rfl hst.ctx (Y.assignP rfl) ?_
    refine Ops.y rfl rfl rfl hst.ctx (Y.assignP rfl) ?_
    refine Ops.done rfl ?_
    refine W.seq rfl ?_
    refine W.seq rfl ?_
    replace hst := slNil hst.swap
    refine W.region rfl ?_
    refine Ops.y rfl rfl rfl hst.ctx (Y.moveS rfl) ?_
    refine Ops.y rfl rfl rfl hst.ctx (Y.lenS Try.underlying22 rfl) ?_
    refine Ops.y rfl rfl rfl hst.ctx (Y.moveI rfl) ?_
    refine Ops.done rfl ?_
    refine W.block rfl ?_
    refine W.loop (γ := Nat × Qs × List RI × Value) [(3, .pointer _), (4, .pointer _), (21, .slice _ _ _), (22, .int _ _)] (fun x => [(23, .int .i64 (x.1 : Int))]) (fun x w => x.1 ≤ l.length ∧ Rel x.2.1 x.2.2.1 ∧ St W1 [] w (QR bl ((x.1 : Int)) x.2.1 :: cellsR p20 [x.2.2.2] 36 :: slR (x.2.2.2) (x.2.2.1).length (ics (x.2.2.1)) :: []) G) (fun x => l.length - x.1) ((0, q0, [], .slice none 0 0)) rfl ⟨rfl, rfl, rfl, rfl, trivial⟩ ?_ ?_ ?_
    · exact ⟨rfl, trivial⟩
    · exact ⟨by omega, Rel.zero, hst.up3.up3⟩
    · clear hst; rintro ⟨k, qs, R, v⟩ jA w3 ⟨hk, hrel, hst⟩
      dsimp only at hk hrel hst ⊢
      have hqf := hst.qfacts
      have hq48 := hqf.1
      have htl := tot_le hqf.1 hqf.2.1
      have htt := hrel.tot hq48
      have hage := hrel.age hq48 hqf.2.2
      have hl4 := hgr rfl
      refine W.seq rfl ?_
      refine W.region rfl ?_
      refine Ops.yb rfl rfl rfl hst.ctx (Y.lss rfl rfl) (fun b24 hb24 => ?_)
      refine Ops.done rfl ?_
      refine W.seq rfl ?_
      cases b24
      · replace hb24 := of_decide_eq_false hb24.symm
        refine W.condF rfl rfl ?_
        refine W.exit rfl ?_
        refine W.seq rfl ?_
        refine W.region rfl ?_
        refine Ops.y rfl rfl rfl hst.ctx (Y.assignP rfl) ?_
        refine Ops.done rfl ?_
        refine W.seq rfl ?_
        refine W.region rfl ?_
        refine Ops.y rfl rfl rfl hst.ctx (Y.moveP rfl) ?_
        refine Ops.x rfl rfl rfl (X.call cf17 rfl ?_)
        refine use_call (Clear_nil 0 _) rfl ?_; rintro e w2 ⟨rfl, rfl⟩; refine ⟨_, rfl, ?_⟩
        refine Ops.done rfl ?_
        refine W.seq rfl ?_
        refine W.region rfl ?_
        refine Ops.y rfl rfl rfl hst.ctx (Y.moveP rfl) ?_
        refine Ops.x rfl rfl rfl (X.call cf14 rfl ?_)
        refine use_call (Pop_nil 0 _ _ _ _ _ hst) rfl ?_; clear hst; rintro e w2 ⟨rfl, hst⟩; refine ⟨_, rfl, ?_⟩
        refine Ops.y rfl rfl rfl hst.ctx (Y.moveU rfl) ?_
        refine Ops.y rfl rfl rfl hst.ctx (Y.extract rfl rfl) ?_
        refine Ops.y rfl rfl rfl hst.ctx (Y.extract rfl rfl) ?_
        refine Ops.x rfl rfl rfl (X.allocA hst Try.zeroValue38 ?_)
        clear hst; intro p12 w12 hst
        first
        | refine Ops.x rfl rfl rfl (X.storeS hst 0 Try.sizeOf38 rfl rfl rfl rfl rfl (Nat.le_of_ble_eq_true rfl) rfl rfl ?_)
        | refine Ops.x rfl rfl rfl (X.storeS hst 1 Try.sizeOf38 rfl rfl rfl rfl rfl (Nat.le_of_ble_eq_true rfl) rfl rfl ?_)
        | refine Ops.x rfl rfl rfl (X.storeS hst 2 Try.sizeOf38 rfl rfl rfl rfl rfl (Nat.le_of_ble_eq_true rfl) rfl rfl ?_)
        | refine Ops.x rfl rfl rfl (X.storeS hst 3 Try.sizeOf38 rfl rfl rfl rfl rfl (Nat.le_of_ble_eq_true rfl) rfl rfl ?_)
        | refine Ops.x rfl rfl rfl (X.storeS hst 4 Try.sizeOf38 rfl rfl rfl rfl rfl (Nat.le_of_ble_eq_true rfl) rfl rfl ?_)
        | refine Ops.x rfl rfl rfl (X.storeS hst 5 Try.sizeOf38 rfl rfl rfl rfl rfl (Nat.le_of_ble_eq_true rfl) rfl rfl ?_)
        | refine Ops.x rfl rfl rfl (X.storeS hst 6 Try.sizeOf38 rfl rfl rfl rfl rfl (Nat.le_of_ble_eq_true rfl) rfl rfl ?_)
        | refine Ops.x rfl rfl rfl (X.storeS hst 7 Try.sizeOf38 rfl rfl rfl rfl rfl (Nat.le_of_ble_eq_true rfl) rfl rfl ?_)
        clear hst; intro w29_6 hst
        try simp only [List.set_cons_zero, List.set_cons_succ, Nat.zero_add, Nat.reduceAdd, splice, List.take, List.drop, List.append_eq, List.nil_append, List.cons_append, List.length_cons, List.length_nil] at hst
        refine Ops.y rfl rfl rfl hst.ctx (Y.assignB rfl) ?_
        refine Ops.done rfl ?_
        refine W.seq rfl ?_
        refine W.region rfl ?_
        refine Ops.y rfl rfl rfl hst.ctx (Y.moveP rfl) ?_
        refine Ops.x rfl rfl rfl (X.call cf10 rfl ?_)
        refine use_call (Push_nil 0 _ _) rfl ?_; rintro e w2 ⟨rfl, rfl⟩; refine ⟨_, rfl, ?_⟩
        refine Ops.yb rfl rfl rfl hst.ctx (Y.eql rfl rfl) (fun b117 hb117 => ?_)
        refine Ops.y rfl rfl rfl hst.ctx (Y.moveB rfl) ?_
        cases b117
        · replace hb117 := of_decide_eq_false hb117.symm
          exact absurd rfl hb117
        · replace hb117 := of_decide_eq_true hb117.symm
          refine Ops.y rfl rfl rfl hst.ctx (Y.moveB rfl) ?_
          refine Ops.y rfl rfl rfl hst.ctx (Y.not rfl) ?_
          refine Ops.y rfl rfl rfl hst.ctx (Y.pick (.bool _) rfl rfl) ?_
          refine Ops.y rfl rfl rfl hst.ctx (Y.moveB rfl) ?_
          refine Ops.y rfl rfl rfl hst.ctx (Y.moveP rfl) ?_
          refine Ops.x rfl rfl rfl (X.call cf11 rfl ?_)
          refine use_call (Len_nil 0 _) rfl ?_; rintro e w2 ⟨rfl, rfl⟩; refine ⟨_, rfl, ?_⟩
          refine Ops.yb rfl rfl rfl hst.ctx (Y.eql rfl rfl) (fun b125 hb125 => ?_)
          refine Ops.y rfl rfl rfl hst.ctx (Y.pick (.bool _) rfl rfl) ?_
          refine Ops.y rfl rfl rfl hst.ctx (Y.moveB rfl) ?_
          cases b125
          · replace hb125 := of_decide_eq_false hb125.symm
            exact absurd rfl hb125
          · replace hb125 := of_decide_eq_true hb125.symm
            refine Ops.y rfl rfl rfl hst.ctx (Y.moveP rfl) ?_
            refine Ops.x rfl rfl rfl (X.call cf12 rfl ?_)
            refine use_call (Tick_nil 1 _) rfl ?_; rintro e w2 ⟨rfl, rfl⟩; refine ⟨_, rfl, ?_⟩
            refine Ops.yb rfl rfl rfl hst.ctx (Y.eql rfl rfl) (fun b130 hb130 => ?_)
            refine Ops.y rfl rfl rfl hst.ctx (Y.pick (.bool _) rfl rfl) ?_
            refine Ops.y rfl rfl rfl hst.ctx (Y.assignB rfl) ?_
            refine Ops.done rfl ?_
            refine W.ret rfl ?_
            cases b130
            · replace hb130 := of_decide_eq_false hb130.symm
              exact absurd rfl hb130
            · replace hb130 := of_decide_eq_true hb130.symm
              refine ⟨_, Rslt.one Try.results4 rfl, ?_⟩
              exact ⟨rfl, hst.below⟩
      · replace hb24 := of_decide_eq_true hb24.symm
        refine W.condT rfl rfl ?_
        refine W.skip rfl ?_
        refine W.seq rfl ?_
        refine W.block rfl ?_
        refine W.seq rfl ?_
        refine W.region rfl ?_
        have hk1 : k < l.length := by omega
        refine Ops.y rfl rfl rfl hst.ctx (Y.indexAddr Try.underlying22 Try.sizeOf28 rfl rfl (((hr.mono (fun r h => nomatch h) (fun r h => h)).sl hst).ne (by rw [ccs_length]; omega)) (by omega)) ?_
        refine Ops.y rfl rfl rfl hst.ctx (Y.loadSlA Try.isAgg28 Try.sizeOf28 rfl (hr.mono (fun r h => nomatch h) (fun r h => h)) (ccs_at l k hk1) rfl) ?_
        refine Ops.x rfl rfl rfl (X.allocA hst Try.zeroValue28 ?_)
        clear hst; intro p6 w6 hst
        first
        | refine Ops.x rfl rfl rfl (X.storeS hst 0 Try.sizeOf28 rfl rfl rfl rfl rfl (Nat.le_of_ble_eq_true rfl) rfl rfl ?_)
        | refine Ops.x rfl rfl rfl (X.storeS hst 1 Try.sizeOf28 rfl rfl rfl rfl rfl (Nat.le_of_ble_eq_true rfl) rfl rfl ?_)
        | refine Ops.x rfl rfl rfl (X.storeS hst 2 Try.sizeOf28 rfl rfl rfl rfl rfl (Nat.le_of_ble_eq_true rfl) rfl rfl ?_)
        | refine Ops.x rfl rfl rfl (X.storeS hst 3 Try.sizeOf28 rfl rfl rfl rfl rfl (Nat.le_of_ble_eq_true rfl) rfl rfl ?_)
        | refine Ops.x rfl rfl rfl (X.storeS hst 4 Try.sizeOf28 rfl rfl rfl rfl rfl (Nat.le_of_ble_eq_true rfl) rfl rfl ?_)
        | refine Ops.x rfl rfl rfl (X.storeS hst 5 Try.sizeOf28 rfl rfl rfl rfl rfl (Nat.le_of_ble_eq_true rfl) rfl rfl ?_)
        | refine Ops.x rfl rfl rfl (X.storeS hst 6 Try.sizeOf28 rfl rfl rfl rfl rfl (Nat.le_of_ble_eq_true rfl) rfl rfl ?_)
        | refine Ops.x rfl rfl rfl (X.storeS hst 7 Try.sizeOf28 rfl rfl rfl rfl rfl (Nat.le_of_ble_eq_true rfl) rfl rfl ?_)
        clear hst; intro w8_3 hst
        try simp only [List.set_cons_zero, List.set_cons_succ, Nat.zero_add, Nat.reduceAdd, splice, List.take, List.drop, List.append_eq, List.nil_append, List.cons_append, List.length_cons, List.length_nil] at hst
        refine Ops.done rfl ?_
        refine W.seq rfl ?_
        refine W.seq rfl ?_
        replace hst : St W1 [] _ (QR bl (k : Int) qs :: cellsR p20 [v] 36 :: slR v R.length (ics R) :: cellsR p6 (clc (l.getD k cl0)) 28 :: []) G := hst.perm (by simpa using (List.perm_append_comm (l₁ := [_]) (l₂ := [QR bl (k : Int) qs, cellsR p20 [v] 36, slR v R.length (ics R)])))
        refine W.region rfl ?_
        first
        | refine Ops.y rfl rfl rfl hst.ctx (Y.fieldAddr fa28_0 rfl) ?_
        | refine Ops.y rfl rfl rfl hst.ctx (Y.fieldAddrP fa28_0 rfl) ?_
        first
        | refine Ops.y rfl rfl rfl hst.ctx (Y.load 0 Try.isAgg3 rfl rfl rfl) ?_
        | refine Ops.y rfl rfl rfl hst.ctx (Y.load 1 Try.isAgg3 rfl rfl rfl) ?_
        | refine Ops.y rfl rfl rfl hst.ctx (Y.load 2 Try.isAgg3 rfl rfl rfl) ?_
        | refine Ops.y rfl rfl rfl hst.ctx (Y.load 3 Try.isAgg3 rfl rfl rfl) ?_
        | refine Ops.y rfl rfl rfl hst.ctx (Y.load 4 Try.isAgg3 rfl rfl rfl) ?_
        | refine Ops.y rfl rfl rfl hst.ctx (Y.load 5 Try.isAgg3 rfl rfl rfl) ?_
        | refine Ops.y rfl rfl rfl hst.ctx (Y.load 6 Try.isAgg3 rfl rfl rfl) ?_
        | refine Ops.y rfl rfl rfl hst.ctx (Y.load 7 Try.isAgg3 rfl rfl rfl) ?_
        refine Ops.done rfl ?_
        refine W.block rfl ?_
        refine W.seq rfl ?_
        refine W.region rfl ?_
        refine Ops.yb rfl rfl rfl hst.ctx (Y.eql rfl rfl) (fun b30 hb30 => ?_)
        refine Ops.y rfl rfl rfl hst.ctx (Y.assignB rfl) ?_
        refine Ops.done rfl ?_
        cases b30
        · replace hb30 := of_decide_eq_false hb30.symm
          refine W.condF rfl rfl ?_
          refine W.seq rfl ?_
          refine W.region rfl ?_
          refine Ops.yb rfl rfl rfl hst.ctx (Y.eql rfl rfl) (fun b45 hb45 => ?_)
          refine Ops.y rfl rfl rfl hst.ctx (Y.assignB rfl) ?_
          refine Ops.done rfl ?_
          cases b45
          · replace hb45 := of_decide_eq_false hb45.symm
            refine W.condF rfl rfl ?_
            refine W.seq rfl ?_
            refine W.region rfl ?_
            refine Ops.yb rfl rfl rfl hst.ctx (Y.eql rfl rfl) (fun b78 hb78 => ?_)
            refine Ops.y rfl rfl rfl hst.ctx (Y.assignB rfl) ?_
            refine Ops.done rfl ?_
            cases b78
            · replace hb78 := of_decide_eq_false hb78.symm
              refine W.condF rfl rfl ?_
              refine W.seq rfl ?_
              refine W.region rfl ?_
              refine Ops.yb rfl rfl rfl hst.ctx (Y.eql rfl rfl) (fun b89 hb89 => ?_)
              refine Ops.y rfl rfl rfl hst.ctx (Y.assignB rfl) ?_
              refine Ops.done rfl ?_
              cases b89
              · replace hb89 := of_decide_eq_false hb89.symm
                refine W.condF rfl rfl ?_
                refine W.skip rfl ?_
                refine W.seq rfl ?_
                obtain ⟨q2, R2, v2, hrel2, hst⟩ : ∃ q2 R2 v2, Rel q2 R2 ∧ St W1 [] _ (QR bl ((k : Int) + 1) q2 :: cellsR p20 [v2] 36 :: slR v2 R2.length (ics R2) :: cellsR p6 (clc (l.getD k cl0)) 28 :: []) G := by
                  first
                  | exact ⟨_, _, _, hrel.push hq48 _ _, hst.older (by omega)⟩
                  | exact ⟨_, _, _, hrel.pop hq48 _, (hst.drop.up3.drop.up3).older (by omega)⟩
                  | exact ⟨_, _, _, hrel.tick hq48 _, hst⟩
                  | exact ⟨_, _, _, hrel.clear hq48 _, hst.older (by omega)⟩
                  | exact ⟨_, _, _, hrel, hst.older (by omega)⟩
                have hq2 := hst.qfacts
                have ht2 := tot_le hq2.1 hq2.2.1
                rw [hrel2.tot hq2.1] at ht2
                have hll := hrel2.len (l.getD k cl0).who
                refine W.drawn rfl (by kernel_rfl) (Ctx _ _ ([cellsR p6 (clc (l.getD k cl0)) 28]) (_)) [] [(0, 0), (1, 0), (2, 0), (4, 0), (5, 0), (6, 0), (3, 1), (7, 1), (8, 0)] rfl (by kernel_rfl) hst.drew.ctx3 ?_
                replace hst := hst.drew
                generalize World.drew _ = wd at hst ⊢
                refine Drw.y rfl rfl rfl hst.ctx3 (Y.moveP rfl) ?_
                first
                | refine Drw.y rfl rfl rfl hst.ctx3 (Y.fieldAddr fa28_1 rfl) ?_
                | refine Drw.y rfl rfl rfl hst.ctx3 (Y.fieldAddrP fa28_1 rfl) ?_
                first
                | refine Drw.y rfl rfl rfl hst.ctx3 (Y.load 0 Try.isAgg3 rfl rfl rfl) ?_
                | refine Drw.y rfl rfl rfl hst.ctx3 (Y.load 1 Try.isAgg3 rfl rfl rfl) ?_
                | refine Drw.y rfl rfl rfl hst.ctx3 (Y.load 2 Try.isAgg3 rfl rfl rfl) ?_
                | refine Drw.y rfl rfl rfl hst.ctx3 (Y.load 3 Try.isAgg3 rfl rfl rfl) ?_
                | refine Drw.y rfl rfl rfl hst.ctx3 (Y.load 4 Try.isAgg3 rfl rfl rfl) ?_
                | refine Drw.y rfl rfl rfl hst.ctx3 (Y.load 5 Try.isAgg3 rfl rfl rfl) ?_
                | refine Drw.y rfl rfl rfl hst.ctx3 (Y.load 6 Try.isAgg3 rfl rfl rfl) ?_
                | refine Drw.y rfl rfl rfl hst.ctx3 (Y.load 7 Try.isAgg3 rfl rfl rfl) ?_
                refine Drw.y rfl rfl rfl hst.ctx3 (Y.moveP rfl) ?_
                first
                | refine Drw.y rfl rfl rfl hst.ctx3 (Y.fieldAddr fa28_1 rfl) ?_
                | refine Drw.y rfl rfl rfl hst.ctx3 (Y.fieldAddrP fa28_1 rfl) ?_
                first
                | refine Drw.y rfl rfl rfl hst.ctx3 (Y.load 0 Try.isAgg3 rfl rfl rfl) ?_
                | refine Drw.y rfl rfl rfl hst.ctx3 (Y.load 1 Try.isAgg3 rfl rfl rfl) ?_
                | refine Drw.y rfl rfl rfl hst.ctx3 (Y.load 2 Try.isAgg3 rfl rfl rfl) ?_
                | refine Drw.y rfl rfl rfl hst.ctx3 (Y.load 3 Try.isAgg3 rfl rfl rfl) ?_
                | refine Drw.y rfl rfl rfl hst.ctx3 (Y.load 4 Try.isAgg3 rfl rfl rfl) ?_
                | refine Drw.y rfl rfl rfl hst.ctx3 (Y.load 5 Try.isAgg3 rfl rfl rfl) ?_
                | refine Drw.y rfl rfl rfl hst.ctx3 (Y.load 6 Try.isAgg3 rfl rfl rfl) ?_
                | refine Drw.y rfl rfl rfl hst.ctx3 (Y.load 7 Try.isAgg3 rfl rfl rfl) ?_
                refine Drw.x rfl rfl rfl (X.call cf11 rfl ?_)
                refine use_call (Len_any bl _ q2 (l.getD k cl0).who _ _ _ _ _ hst (by omega)) rfl ?_; clear hst; rintro e w4 ⟨rfl, hst⟩; refine ⟨_, rfl, ⟨hst.ctx3, ?_⟩⟩
                refine Drw.x rfl rfl rfl (X.call cf19 rfl ?_)
                refine use_call (rLen_any (l.getD k cl0).who p20 v2 R2 _ _ _ _ _ hst.up3.up3 (by omega)) rfl ?_; clear hst; rintro e w5 ⟨rfl, hst⟩; replace hst := hst.up3; refine ⟨_, rfl, ⟨hst.ctx3, ?_⟩⟩
                refine Drw.yb rfl rfl rfl hst.ctx3 (Y.neq rfl rfl) (fun b106 hb106 => ?_)
                refine Drw.done ?_
                cases b106
                · replace hb106 := of_decide_eq_false hb106.symm
                  refine W.condF rfl rfl ?_
                  refine W.skip rfl ?_
                  refine W.region rfl ?_
                  refine Ops.y rfl rfl rfl hst.ctx (Y.addI rfl rfl (by omega)) ?_
                  refine Ops.y rfl rfl rfl hst.ctx (Y.moveI rfl) ?_
                  refine Ops.done rfl ?_
                  exact ⟨(k + 1, q2, R2, v2), ⟨rfl, trivial⟩, ⟨rfl, rfl, rfl, rfl, trivial⟩, ⟨by dsimp only; omega, hrel2, (hst.up4.drop)⟩, by dsimp only; omega⟩
                · replace hb106 := of_decide_eq_true hb106.symm
                  exact absurd (by rw [hll]) hb106
              · replace hb89 := of_decide_eq_true hb89.symm
                refine W.condT rfl rfl ?_
                refine W.seq rfl ?_
                refine W.region rfl ?_
                refine Ops.y rfl rfl rfl hst.ctx (Y.moveP rfl) ?_
                first
                | refine Ops.y rfl rfl rfl hst.ctx (Y.fieldAddr fa28_1 rfl) ?_
                | refine Ops.y rfl rfl rfl hst.ctx (Y.fieldAddrP fa28_1 rfl) ?_
                first
                | refine Ops.y rfl rfl rfl hst.ctx (Y.load 0 Try.isAgg3 rfl rfl rfl) ?_
                | refine Ops.y rfl rfl rfl hst.ctx (Y.load 1 Try.isAgg3 rfl rfl rfl) ?_
                | refine Ops.y rfl rfl rfl hst.ctx (Y.load 2 Try.isAgg3 rfl rfl rfl) ?_
                | refine Ops.y rfl rfl rfl hst.ctx (Y.load 3 Try.isAgg3 rfl rfl rfl) ?_
                | refine Ops.y rfl rfl rfl hst.ctx (Y.load 4 Try.isAgg3 rfl rfl rfl) ?_
                | refine Ops.y rfl rfl rfl hst.ctx (Y.load 5 Try.isAgg3 rfl rfl rfl) ?_
                | refine Ops.y rfl rfl rfl hst.ctx (Y.load 6 Try.isAgg3 rfl rfl rfl) ?_
                | refine Ops.y rfl rfl rfl hst.ctx (Y.load 7 Try.isAgg3 rfl rfl rfl) ?_
                refine Ops.x rfl rfl rfl (X.call cf17 rfl ?_)
                refine use_call (Clear_any bl _ qs (l.getD k cl0).who _ _ _ _ _ hst (by omega)) rfl ?_; clear hst; rintro e w2 ⟨rfl, hst⟩; refine ⟨_, rfl, ?_⟩
                refine Ops.done rfl ?_
                refine W.region rfl ?_
                refine Ops.y rfl rfl rfl hst.ctx (Y.moveP rfl) ?_
                first
                | refine Ops.y rfl rfl rfl hst.ctx (Y.fieldAddr fa28_1 rfl) ?_
                | refine Ops.y rfl rfl rfl hst.ctx (Y.fieldAddrP fa28_1 rfl) ?_
                first
                | refine Ops.y rfl rfl rfl hst.ctx (Y.load 0 Try.isAgg3 rfl rfl rfl) ?_
                | refine Ops.y rfl rfl rfl hst.ctx (Y.load 1 Try.isAgg3 rfl rfl rfl) ?_
                | refine Ops.y rfl rfl rfl hst.ctx (Y.load 2 Try.isAgg3 rfl rfl rfl) ?_
                | refine Ops.y rfl rfl rfl hst.ctx (Y.load 3 Try.isAgg3 rfl rfl rfl) ?_
                | refine Ops.y rfl rfl rfl hst.ctx (Y.load 4 Try.isAgg3 rfl rfl rfl) ?_
                | refine Ops.y rfl rfl rfl hst.ctx (Y.load 5 Try.isAgg3 rfl rfl rfl) ?_
                | refine Ops.y rfl rfl rfl hst.ctx (Y.load 6 Try.isAgg3 rfl rfl rfl) ?_
                | refine Ops.y rfl rfl rfl hst.ctx (Y.load 7 Try.isAgg3 rfl rfl rfl) ?_
                refine Ops.x rfl rfl rfl (X.call cf18 rfl ?_)
                refine use_call (rClear_any (l.getD k cl0).who p20 v R _ _ _ _ _ hst.up3.up3 (by omega)) rfl ?_; clear hst; rintro e w2 ⟨rfl, v2, hst⟩; replace hst := hst.up3; refine ⟨_, rfl, ?_⟩
                refine Ops.done rfl ?_
                refine W.seq rfl ?_
                obtain ⟨q2, R2, v2, hrel2, hst⟩ : ∃ q2 R2 v2, Rel q2 R2 ∧ St W1 [] _ (QR bl ((k : Int) + 1) q2 :: cellsR p20 [v2] 36 :: slR v2 R2.length (ics R2) :: cellsR p6 (clc (l.getD k cl0)) 28 :: []) G := by
                  first
                  | exact ⟨_, _, _, hrel.push hq48 _ _, hst.older (by omega)⟩
                  | exact ⟨_, _, _, hrel.pop hq48 _, (hst.drop.up3.drop.up3).older (by omega)⟩
                  | exact ⟨_, _, _, hrel.tick hq48 _, hst⟩
                  | exact ⟨_, _, _, hrel.clear hq48 _, hst.older (by omega)⟩
                  | exact ⟨_, _, _, hrel, hst.older (by omega)⟩
                have hq2 := hst.qfacts
                have ht2 := tot_le hq2.1 hq2.2.1
                rw [hrel2.tot hq2.1] at ht2
                have hll := hrel2.len (l.getD k cl0).who
                refine W.drawn rfl (by kernel_rfl) (Ctx _ _ ([cellsR p6 (clc (l.getD k cl0)) 28]) (_)) [] [(0, 0), (1, 0), (2, 0), (4, 0), (5, 0), (6, 0), (3, 1), (7, 1), (8, 0)] rfl (by kernel_rfl) hst.drew.ctx3 ?_
                replace hst := hst.drew
                generalize World.drew _ = wd at hst ⊢
                refine Drw.y rfl rfl rfl hst.ctx3 (Y.moveP rfl) ?_
                first
                | refine Drw.y rfl rfl rfl hst.ctx3 (Y.fieldAddr fa28_1 rfl) ?_
                | refine Drw.y rfl rfl rfl hst.ctx3 (Y.fieldAddrP fa28_1 rfl) ?_
                first
                | refine Drw.y rfl rfl rfl hst.ctx3 (Y.load 0 Try.isAgg3 rfl rfl rfl) ?_
                | refine Drw.y rfl rfl rfl hst.ctx3 (Y.load 1 Try.isAgg3 rfl rfl rfl) ?_
                | refine Drw.y rfl rfl rfl hst.ctx3 (Y.load 2 Try.isAgg3 rfl rfl rfl) ?_
                | refine Drw.y rfl rfl rfl hst.ctx3 (Y.load 3 Try.isAgg3 rfl rfl rfl) ?_
                | refine Drw.y rfl rfl rfl hst.ctx3 (Y.load 4 Try.isAgg3 rfl rfl rfl) ?_
                | refine Drw.y rfl rfl rfl hst.ctx3 (Y.load 5 Try.isAgg3 rfl rfl rfl) ?_
                | refine Drw.y rfl rfl rfl hst.ctx3 (Y.load 6 Try.isAgg3 rfl rfl rfl) ?_
                | refine Drw.y rfl rfl rfl hst.ctx3 (Y.load 7 Try.isAgg3 rfl rfl rfl) ?_
                refine Drw.y rfl rfl rfl hst.ctx3 (Y.moveP rfl) ?_
                first
                | refine Drw.y rfl rfl rfl hst.ctx3 (Y.fieldAddr fa28_1 rfl) ?_
                | refine Drw.y rfl rfl rfl hst.ctx3 (Y.fieldAddrP fa28_1 rfl) ?_
                first
                | refine Drw.y rfl rfl rfl hst.ctx3 (Y.load 0 Try.isAgg3 rfl rfl rfl) ?_
                | refine Drw.y rfl rfl rfl hst.ctx3 (Y.load 1 Try.isAgg3 rfl rfl rfl) ?_
                | refine Drw.y rfl rfl rfl hst.ctx3 (Y.load 2 Try.isAgg3 rfl rfl rfl) ?_
                | refine Drw.y rfl rfl rfl hst.ctx3 (Y.load 3 Try.isAgg3 rfl rfl rfl) ?_
                | refine Drw.y rfl rfl rfl hst.ctx3 (Y.load 4 Try.isAgg3 rfl rfl rfl) ?_
                | refine Drw.y rfl rfl rfl hst.ctx3 (Y.load 5 Try.isAgg3 rfl rfl rfl) ?_
                | refine Drw.y rfl rfl rfl hst.ctx3 (Y.load 6 Try.isAgg3 rfl rfl rfl) ?_
                | refine Drw.y rfl rfl rfl hst.ctx3 (Y.load 7 Try.isAgg3 rfl rfl rfl) ?_
                refine Drw.x rfl rfl rfl (X.call cf11 rfl ?_)
                refine use_call (Len_any bl _ q2 (l.getD k cl0).who _ _ _ _ _ hst (by omega)) rfl ?_; clear hst; rintro e w4 ⟨rfl, hst⟩; refine ⟨_, rfl, ⟨hst.ctx3, ?_⟩⟩
                refine Drw.x rfl rfl rfl (X.call cf19 rfl ?_)
                refine use_call (rLen_any (l.getD k cl0).who p20 v2 R2 _ _ _ _ _ hst.up3.up3 (by omega)) rfl ?_; clear hst; rintro e w5 ⟨rfl, hst⟩; replace hst := hst.up3; refine ⟨_, rfl, ⟨hst.ctx3, ?_⟩⟩
                refine Drw.yb rfl rfl rfl hst.ctx3 (Y.neq rfl rfl) (fun b106 hb106 => ?_)
                refine Drw.done ?_
                cases b106
                · replace hb106 := of_decide_eq_false hb106.symm
                  refine W.condF rfl rfl ?_
                  refine W.skip rfl ?_
                  refine W.region rfl ?_
                  refine Ops.y rfl rfl rfl hst.ctx (Y.addI rfl rfl (by omega)) ?_
                  refine Ops.y rfl rfl rfl hst.ctx (Y.moveI rfl) ?_
                  refine Ops.done rfl ?_
                  exact ⟨(k + 1, q2, R2, v2), ⟨rfl, trivial⟩, ⟨rfl, rfl, rfl, rfl, trivial⟩, ⟨by dsimp only; omega, hrel2, (hst.up4.drop)⟩, by dsimp only; omega⟩
                · replace hb106 := of_decide_eq_true hb106.symm
                  exact absurd (by rw [hll]) hb106
            · replace hb78 := of_decide_eq_true hb78.symm
              refine W.condT rfl rfl ?_
              refine W.seq rfl ?_
              refine W.drawn rfl (by kernel_rfl) (Ctx _ _ ([cellsR p6 (clc (l.getD k cl0)) 28]) (_)) [] [(0, 0), (1, 0), (2, 0), (4, 0), (5, 0), (6, 0), (3, 1), (7, 1), (8, 0)] rfl (by kernel_rfl) hst.drew.ctx3 ?_
              replace hst := hst.drew
              generalize World.drew _ = wd at hst ⊢
              refine Drw.y rfl rfl rfl hst.ctx3 (Y.moveP rfl) ?_
              first
              | refine Drw.y rfl rfl rfl hst.ctx3 (Y.fieldAddr fa28_2 rfl) ?_
              | refine Drw.y rfl rfl rfl hst.ctx3 (Y.fieldAddrP fa28_2 rfl) ?_
              first
              | refine Drw.y rfl rfl rfl hst.ctx3 (Y.load 0 Try.isAgg3 rfl rfl rfl) ?_
              | refine Drw.y rfl rfl rfl hst.ctx3 (Y.load 1 Try.isAgg3 rfl rfl rfl) ?_
              | refine Drw.y rfl rfl rfl hst.ctx3 (Y.load 2 Try.isAgg3 rfl rfl rfl) ?_
              | refine Drw.y rfl rfl rfl hst.ctx3 (Y.load 3 Try.isAgg3 rfl rfl rfl) ?_
              | refine Drw.y rfl rfl rfl hst.ctx3 (Y.load 4 Try.isAgg3 rfl rfl rfl) ?_
              | refine Drw.y rfl rfl rfl hst.ctx3 (Y.load 5 Try.isAgg3 rfl rfl rfl) ?_
              | refine Drw.y rfl rfl rfl hst.ctx3 (Y.load 6 Try.isAgg3 rfl rfl rfl) ?_
              | refine Drw.y rfl rfl rfl hst.ctx3 (Y.load 7 Try.isAgg3 rfl rfl rfl) ?_
              refine Drw.y rfl rfl rfl hst.ctx3 (Y.moveP rfl) ?_
              first
              | refine Drw.y rfl rfl rfl hst.ctx3 (Y.fieldAddr fa28_2 rfl) ?_
              | refine Drw.y rfl rfl rfl hst.ctx3 (Y.fieldAddrP fa28_2 rfl) ?_
              first
              | refine Drw.y rfl rfl rfl hst.ctx3 (Y.load 0 Try.isAgg3 rfl rfl rfl) ?_
              | refine Drw.y rfl rfl rfl hst.ctx3 (Y.load 1 Try.isAgg3 rfl rfl rfl) ?_
              | refine Drw.y rfl rfl rfl hst.ctx3 (Y.load 2 Try.isAgg3 rfl rfl rfl) ?_
              | refine Drw.y rfl rfl rfl hst.ctx3 (Y.load 3 Try.isAgg3 rfl rfl rfl) ?_
              | refine Drw.y rfl rfl rfl hst.ctx3 (Y.load 4 Try.isAgg3 rfl rfl rfl) ?_
              | refine Drw.y rfl rfl rfl hst.ctx3 (Y.load 5 Try.isAgg3 rfl rfl rfl) ?_
              | refine Drw.y rfl rfl rfl hst.ctx3 (Y.load 6 Try.isAgg3 rfl rfl rfl) ?_
              | refine Drw.y rfl rfl rfl hst.ctx3 (Y.load 7 Try.isAgg3 rfl rfl rfl) ?_
              refine Drw.x rfl rfl rfl (X.call cf12 rfl ?_)
              refine use_call (Tick_any bl _ qs (l.getD k cl0).n _ _ _ _ _ hst (by omega) (by omega)) rfl ?_; clear hst; rintro e w2 ⟨rfl, hst⟩; refine ⟨_, rfl, ⟨hst.ctx3, ?_⟩⟩
              refine Drw.x rfl rfl rfl (X.call cf16 rfl ?_)
              refine use_call (rTick_any (l.getD k cl0).n p20 v R _ _ _ _ _ hst.up3.up3 (by omega) (fun x hx => by have := hage x hx; omega)) rfl ?_; clear hst; rintro e w2 ⟨rfl, v2, hst⟩; replace hst := hst.up3; refine ⟨_, rfl, ⟨hst.ctx3, ?_⟩⟩
              refine Drw.yb rfl rfl rfl hst.ctx3 (Y.neq rfl rfl) (fun b87 hb87 => ?_)
              refine Drw.done ?_
              cases b87
              · replace hb87 := of_decide_eq_false hb87.symm
                refine W.condF rfl rfl ?_
                refine W.skip rfl ?_
                refine W.seq rfl ?_
                obtain ⟨q2, R2, v2, hrel2, hst⟩ : ∃ q2 R2 v2, Rel q2 R2 ∧ St W1 [] _ (QR bl ((k : Int) + 1) q2 :: cellsR p20 [v2] 36 :: slR v2 R2.length (ics R2) :: cellsR p6 (clc (l.getD k cl0)) 28 :: []) G := by
                  first
                  | exact ⟨_, _, _, hrel.push hq48 _ _, hst.older (by omega)⟩
                  | exact ⟨_, _, _, hrel.pop hq48 _, (hst.drop.up3.drop.up3).older (by omega)⟩
                  | exact ⟨_, _, _, hrel.tick hq48 _, hst⟩
                  | exact ⟨_, _, _, hrel.clear hq48 _, hst.older (by omega)⟩
                  | exact ⟨_, _, _, hrel, hst.older (by omega)⟩
                have hq2 := hst.qfacts
                have ht2 := tot_le hq2.1 hq2.2.1
                rw [hrel2.tot hq2.1] at ht2
                have hll := hrel2.len (l.getD k cl0).who
                refine W.drawn rfl (by kernel_rfl) (Ctx _ _ ([cellsR p6 (clc (l.getD k cl0)) 28]) (_)) [] [(0, 0), (1, 0), (2, 0), (4, 0), (5, 0), (6, 0), (3, 1), (7, 1), (8, 0)] rfl (by kernel_rfl) hst.drew.ctx3 ?_
                replace hst := hst.drew
                generalize World.drew _ = wd at hst ⊢
                refine Drw.y rfl rfl rfl hst.ctx3 (Y.moveP rfl) ?_
                first
                | refine Drw.y rfl rfl rfl hst.ctx3 (Y.fieldAddr fa28_1 rfl) ?_
                | refine Drw.y rfl rfl rfl hst.ctx3 (Y.fieldAddrP fa28_1 rfl) ?_
                first
                | refine Drw.y rfl rfl rfl hst.ctx3 (Y.load 0 Try.isAgg3 rfl rfl rfl) ?_
                | refine Drw.y rfl rfl rfl hst.ctx3 (Y.load 1 Try.isAgg3 rfl rfl rfl) ?_
                | refine Drw.y rfl rfl rfl hst.ctx3 (Y.load 2 Try.isAgg3 rfl rfl rfl) ?_
                | refine Drw.y rfl rfl rfl hst.ctx3 (Y.load 3 Try.isAgg3 rfl rfl rfl) ?_
                | refine Drw.y rfl rfl rfl hst.ctx3 (Y.load 4 Try.isAgg3 rfl rfl rfl) ?_
                | refine Drw.y rfl rfl rfl hst.ctx3 (Y.load 5 Try.isAgg3 rfl rfl rfl) ?_
                | refine Drw.y rfl rfl rfl hst.ctx3 (Y.load 6 Try.isAgg3 rfl rfl rfl) ?_
                | refine Drw.y rfl rfl rfl hst.ctx3 (Y.load 7 Try.isAgg3 rfl rfl rfl) ?_
                refine Drw.y rfl rfl rfl hst.ctx3 (Y.moveP rfl) ?_
                first
                | refine Drw.y rfl rfl rfl hst.ctx3 (Y.fieldAddr fa28_1 rfl) ?_
                | refine Drw.y rfl rfl rfl hst.ctx3 (Y.fieldAddrP fa28_1 rfl) ?_
                first
                | refine Drw.y rfl rfl rfl hst.ctx3 (Y.load 0 Try.isAgg3 rfl rfl rfl) ?_
                | refine Drw.y rfl rfl rfl hst.ctx3 (Y.load 1 Try.isAgg3 rfl rfl rfl) ?_
                | refine Drw.y rfl rfl rfl hst.ctx3 (Y.load 2 Try.isAgg3 rfl rfl rfl) ?_
                | refine Drw.y rfl rfl rfl hst.ctx3 (Y.load 3 Try.isAgg3 rfl rfl rfl) ?_
                | refine Drw.y rfl rfl rfl hst.ctx3 (Y.load 4 Try.isAgg3 rfl rfl rfl) ?_
                | refine Drw.y rfl rfl rfl hst.ctx3 (Y.load 5 Try.isAgg3 rfl rfl rfl) ?_
                | refine Drw.y rfl rfl rfl hst.ctx3 (Y.load 6 Try.isAgg3 rfl rfl rfl) ?_
                | refine Drw.y rfl rfl rfl hst.ctx3 (Y.load 7 Try.isAgg3 rfl rfl rfl) ?_
                refine Drw.x rfl rfl rfl (X.call cf11 rfl ?_)
                refine use_call (Len_any bl _ q2 (l.getD k cl0).who _ _ _ _ _ hst (by omega)) rfl ?_; clear hst; rintro e w4 ⟨rfl, hst⟩; refine ⟨_, rfl, ⟨hst.ctx3, ?_⟩⟩
                refine Drw.x rfl rfl rfl (X.call cf19 rfl ?_)
                refine use_call (rLen_any (l.getD k cl0).who p20 v2 R2 _ _ _ _ _ hst.up3.up3 (by omega)) rfl ?_; clear hst; rintro e w5 ⟨rfl, hst⟩; replace hst := hst.up3; refine ⟨_, rfl, ⟨hst.ctx3, ?_⟩⟩
                refine Drw.yb rfl rfl rfl hst.ctx3 (Y.neq rfl rfl) (fun b106 hb106 => ?_)
                refine Drw.done ?_
                cases b106
                · replace hb106 := of_decide_eq_false hb106.symm
                  refine W.condF rfl rfl ?_
                  refine W.skip rfl ?_
                  refine W.region rfl ?_
                  refine Ops.y rfl rfl rfl hst.ctx (Y.addI rfl rfl (by omega)) ?_
                  refine Ops.y rfl rfl rfl hst.ctx (Y.moveI rfl) ?_
                  refine Ops.done rfl ?_
                  exact ⟨(k + 1, q2, R2, v2), ⟨rfl, trivial⟩, ⟨rfl, rfl, rfl, rfl, trivial⟩, ⟨by dsimp only; omega, hrel2, (hst.up4.drop)⟩, by dsimp only; omega⟩
                · replace hb106 := of_decide_eq_true hb106.symm
                  exact absurd (by rw [hll]) hb106
              · replace hb87 := of_decide_eq_true hb87.symm
                exact absurd (by rw [gn_tot hq48, (hrel.tick hq48 _).tot (by rw [tick_len]; exact hq48), htt]) hb87
          · replace hb45 := of_decide_eq_true hb45.symm
            refine W.condT rfl rfl ?_
            refine W.seq rfl ?_
            refine W.region rfl ?_
            refine Ops.y rfl rfl rfl hst.ctx (Y.moveP rfl) ?_
            first
            | refine Ops.y rfl rfl rfl hst.ctx (Y.fieldAddr fa28_1 rfl) ?_
            | refine Ops.y rfl rfl rfl hst.ctx (Y.fieldAddrP fa28_1 rfl) ?_
            first
            | refine Ops.y rfl rfl rfl hst.ctx (Y.load 0 Try.isAgg3 rfl rfl rfl) ?_
            | refine Ops.y rfl rfl rfl hst.ctx (Y.load 1 Try.isAgg3 rfl rfl rfl) ?_
            | refine Ops.y rfl rfl rfl hst.ctx (Y.load 2 Try.isAgg3 rfl rfl rfl) ?_
            | refine Ops.y rfl rfl rfl hst.ctx (Y.load 3 Try.isAgg3 rfl rfl rfl) ?_
            | refine Ops.y rfl rfl rfl hst.ctx (Y.load 4 Try.isAgg3 rfl rfl rfl) ?_
            | refine Ops.y rfl rfl rfl hst.ctx (Y.load 5 Try.isAgg3 rfl rfl rfl) ?_
            | refine Ops.y rfl rfl rfl hst.ctx (Y.load 6 Try.isAgg3 rfl rfl rfl) ?_
            | refine Ops.y rfl rfl rfl hst.ctx (Y.load 7 Try.isAgg3 rfl rfl rfl) ?_
            refine Ops.x rfl rfl rfl (X.call cf14 rfl ?_)
            refine use_call (Pop_any bl _ qs (l.getD k cl0).who _ _ _ _ _ hst (by omega)) rfl ?_; clear hst; rintro e w2 ⟨b50, rfl, hb50, hst⟩; refine ⟨_, rfl, ?_⟩
            refine Ops.y rfl rfl rfl hst.ctx (Y.moveU rfl) ?_
            refine Ops.y rfl rfl rfl hst.ctx (Y.extract rfl rfl) ?_
            refine Ops.y rfl rfl rfl hst.ctx (Y.extract rfl rfl) ?_
            refine Ops.x rfl rfl rfl (X.allocA hst Try.zeroValue38 ?_)
            clear hst; intro p7 w7 hst
            first
            | refine Ops.x rfl rfl rfl (X.storeS hst 0 Try.sizeOf38 rfl rfl rfl rfl rfl (Nat.le_of_ble_eq_true rfl) rfl rfl ?_)
            | refine Ops.x rfl rfl rfl (X.storeS hst 1 Try.sizeOf38 rfl rfl rfl rfl rfl (Nat.le_of_ble_eq_true rfl) rfl rfl ?_)
            | refine Ops.x rfl rfl rfl (X.storeS hst 2 Try.sizeOf38 rfl rfl rfl rfl rfl (Nat.le_of_ble_eq_true rfl) rfl rfl ?_)
            | refine Ops.x rfl rfl rfl (X.storeS hst 3 Try.sizeOf38 rfl rfl rfl rfl rfl (Nat.le_of_ble_eq_true rfl) rfl rfl ?_)
            | refine Ops.x rfl rfl rfl (X.storeS hst 4 Try.sizeOf38 rfl rfl rfl rfl rfl (Nat.le_of_ble_eq_true rfl) rfl rfl ?_)
            | refine Ops.x rfl rfl rfl (X.storeS hst 5 Try.sizeOf38 rfl rfl rfl rfl rfl (Nat.le_of_ble_eq_true rfl) rfl rfl ?_)
            | refine Ops.x rfl rfl rfl (X.storeS hst 6 Try.sizeOf38 rfl rfl rfl rfl rfl (Nat.le_of_ble_eq_true rfl) rfl rfl ?_)
            | refine Ops.x rfl rfl rfl (X.storeS hst 7 Try.sizeOf38 rfl rfl rfl rfl rfl (Nat.le_of_ble_eq_true rfl) rfl rfl ?_)
            | refine Ops.x rfl rfl rfl (X.storeS hst 8 Try.sizeOf38 rfl rfl rfl rfl rfl (Nat.le_of_ble_eq_true rfl) rfl rfl ?_)
            clear hst; intro w14_8 hst
            try simp only [List.set_cons_zero, List.set_cons_succ, Nat.zero_add, Nat.reduceAdd, splice, List.take, List.drop, List.append_eq, List.nil_append, List.cons_append, List.length_cons, List.length_nil] at hst
            refine Ops.y rfl rfl rfl hst.ctx (Y.assignB rfl) ?_
            refine Ops.done rfl ?_
            refine W.seq rfl ?_
            replace hst := hst.up4.up4
            refine W.region rfl ?_
            refine Ops.y rfl rfl rfl hst.ctx (Y.moveP rfl) ?_
            first
            | refine Ops.y rfl rfl rfl hst.ctx (Y.fieldAddr fa28_1 rfl) ?_
            | refine Ops.y rfl rfl rfl hst.ctx (Y.fieldAddrP fa28_1 rfl) ?_
            first
            | refine Ops.y rfl rfl rfl hst.ctx (Y.load 0 Try.isAgg3 rfl rfl rfl) ?_
            | refine Ops.y rfl rfl rfl hst.ctx (Y.load 1 Try.isAgg3 rfl rfl rfl) ?_
            | refine Ops.y rfl rfl rfl hst.ctx (Y.load 2 Try.isAgg3 rfl rfl rfl) ?_
            | refine Ops.y rfl rfl rfl hst.ctx (Y.load 3 Try.isAgg3 rfl rfl rfl) ?_
            | refine Ops.y rfl rfl rfl hst.ctx (Y.load 4 Try.isAgg3 rfl rfl rfl) ?_
            | refine Ops.y rfl rfl rfl hst.ctx (Y.load 5 Try.isAgg3 rfl rfl rfl) ?_
            | refine Ops.y rfl rfl rfl hst.ctx (Y.load 6 Try.isAgg3 rfl rfl rfl) ?_
            | refine Ops.y rfl rfl rfl hst.ctx (Y.load 7 Try.isAgg3 rfl rfl rfl) ?_
            | refine Ops.y rfl rfl rfl hst.ctx (Y.load 8 Try.isAgg3 rfl rfl rfl) ?_
            refine Ops.x rfl rfl rfl (X.call cf15 rfl ?_)
            refine use_call (rPop_any (l.getD k cl0).who p20 v R _ _ _ _ _ hst (by omega)) rfl ?_; clear hst; rintro e w2 ⟨x, b57, rfl, ⟨hb57, hx⟩, v2, hst⟩; refine ⟨_, rfl, ?_⟩
            refine Ops.y rfl rfl rfl hst.ctx (Y.moveU rfl) ?_
            refine Ops.y rfl rfl rfl hst.ctx (Y.extract rfl rfl) ?_
            refine Ops.y rfl rfl rfl hst.ctx (Y.extract rfl rfl) ?_
            refine Ops.x rfl rfl rfl (X.allocA hst Try.zeroValue42 ?_)
            clear hst; intro p9 w9 hst
            first
            | refine Ops.x rfl rfl rfl (X.storeS hst 0 Try.sizeOf42 rfl rfl rfl rfl rfl (Nat.le_of_ble_eq_true rfl) rfl rfl ?_)
            | refine Ops.x rfl rfl rfl (X.storeS hst 1 Try.sizeOf42 rfl rfl rfl rfl rfl (Nat.le_of_ble_eq_true rfl) rfl rfl ?_)
            | refine Ops.x rfl rfl rfl (X.storeS hst 2 Try.sizeOf42 rfl rfl rfl rfl rfl (Nat.le_of_ble_eq_true rfl) rfl rfl ?_)
            | refine Ops.x rfl rfl rfl (X.storeS hst 3 Try.sizeOf42 rfl rfl rfl rfl rfl (Nat.le_of_ble_eq_true rfl) rfl rfl ?_)
            | refine Ops.x rfl rfl rfl (X.storeS hst 4 Try.sizeOf42 rfl rfl rfl rfl rfl (Nat.le_of_ble_eq_true rfl) rfl rfl ?_)
            | refine Ops.x rfl rfl rfl (X.storeS hst 5 Try.sizeOf42 rfl rfl rfl rfl rfl (Nat.le_of_ble_eq_true rfl) rfl rfl ?_)
            | refine Ops.x rfl rfl rfl (X.storeS hst 6 Try.sizeOf42 rfl rfl rfl rfl rfl (Nat.le_of_ble_eq_true rfl) rfl rfl ?_)
            | refine Ops.x rfl rfl rfl (X.storeS hst 7 Try.sizeOf42 rfl rfl rfl rfl rfl (Nat.le_of_ble_eq_true rfl) rfl rfl ?_)
            | refine Ops.x rfl rfl rfl (X.storeS hst 8 Try.sizeOf42 rfl rfl rfl rfl rfl (Nat.le_of_ble_eq_true rfl) rfl rfl ?_)
            | refine Ops.x rfl rfl rfl (X.storeS hst 9 Try.sizeOf42 rfl rfl rfl rfl rfl (Nat.le_of_ble_eq_true rfl) rfl rfl ?_)
            clear hst; intro w15_8 hst
            try simp only [List.set_cons_zero, List.set_cons_succ, Nat.zero_add, Nat.reduceAdd, splice, List.take, List.drop, List.append_eq, List.nil_append, List.cons_append, List.length_cons, List.length_nil] at hst
            refine Ops.y rfl rfl rfl hst.ctx (Y.assignB rfl) ?_
            refine Ops.done rfl ?_
            refine W.seq rfl ?_
            refine W.region rfl ?_
            refine Ops.y rfl rfl rfl hst.ctx (Y.moveB rfl) ?_
            refine Ops.y rfl rfl rfl hst.ctx (Y.moveB rfl) ?_
            refine Ops.yb rfl rfl rfl hst.ctx (Y.neB Try.underlying4 rfl rfl) (fun b62 hb62 => ?_)
            refine Ops.y rfl rfl rfl hst.ctx (Y.moveB rfl) ?_
            cases b62
            · replace hb62 := of_decide_eq_false hb62.symm
              first
              | refine Ops.y rfl rfl rfl hst.ctx (Y.fieldAddr fa38_0 rfl) ?_
              | refine Ops.y rfl rfl rfl hst.ctx (Y.fieldAddrP fa38_0 rfl) ?_
              first
              | refine Ops.y rfl rfl rfl hst.ctx (Y.load 0 Try.isAgg9 rfl rfl rfl) ?_
              | refine Ops.y rfl rfl rfl hst.ctx (Y.load 1 Try.isAgg9 rfl rfl rfl) ?_
              | refine Ops.y rfl rfl rfl hst.ctx (Y.load 2 Try.isAgg9 rfl rfl rfl) ?_
              | refine Ops.y rfl rfl rfl hst.ctx (Y.load 3 Try.isAgg9 rfl rfl rfl) ?_
              | refine Ops.y rfl rfl rfl hst.ctx (Y.load 4 Try.isAgg9 rfl rfl rfl) ?_
              | refine Ops.y rfl rfl rfl hst.ctx (Y.load 5 Try.isAgg9 rfl rfl rfl) ?_
              | refine Ops.y rfl rfl rfl hst.ctx (Y.load 6 Try.isAgg9 rfl rfl rfl) ?_
              | refine Ops.y rfl rfl rfl hst.ctx (Y.load 7 Try.isAgg9 rfl rfl rfl) ?_
              | refine Ops.y rfl rfl rfl hst.ctx (Y.load 8 Try.isAgg9 rfl rfl rfl) ?_
              | refine Ops.y rfl rfl rfl hst.ctx (Y.load 9 Try.isAgg9 rfl rfl rfl) ?_
              first
              | refine Ops.y rfl rfl rfl hst.ctx (Y.fieldAddr fa42_1 rfl) ?_
              | refine Ops.y rfl rfl rfl hst.ctx (Y.fieldAddrP fa42_1 rfl) ?_
              first
              | refine Ops.y rfl rfl rfl hst.ctx (Y.load 0 Try.isAgg9 rfl rfl rfl) ?_
              | refine Ops.y rfl rfl rfl hst.ctx (Y.load 1 Try.isAgg9 rfl rfl rfl) ?_
              | refine Ops.y rfl rfl rfl hst.ctx (Y.load 2 Try.isAgg9 rfl rfl rfl) ?_
              | refine Ops.y rfl rfl rfl hst.ctx (Y.load 3 Try.isAgg9 rfl rfl rfl) ?_
              | refine Ops.y rfl rfl rfl hst.ctx (Y.load 4 Try.isAgg9 rfl rfl rfl) ?_
              | refine Ops.y rfl rfl rfl hst.ctx (Y.load 5 Try.isAgg9 rfl rfl rfl) ?_
              | refine Ops.y rfl rfl rfl hst.ctx (Y.load 6 Try.isAgg9 rfl rfl rfl) ?_
              | refine Ops.y rfl rfl rfl hst.ctx (Y.load 7 Try.isAgg9 rfl rfl rfl) ?_
              | refine Ops.y rfl rfl rfl hst.ctx (Y.load 8 Try.isAgg9 rfl rfl rfl) ?_
              | refine Ops.y rfl rfl rfl hst.ctx (Y.load 9 Try.isAgg9 rfl rfl rfl) ?_
              refine Ops.yb rfl rfl rfl hst.ctx (Y.neT rfl rfl) (fun b68 hb68 => ?_)
              refine Ops.y rfl rfl rfl hst.ctx (Y.pick (.bool _) rfl rfl) ?_
              refine Ops.y rfl rfl rfl hst.ctx (Y.moveB rfl) ?_
              cases b68
              · replace hb68 := of_decide_eq_false hb68.symm
                first
                | refine Ops.y rfl rfl rfl hst.ctx (Y.fieldAddr fa38_1 rfl) ?_
                | refine Ops.y rfl rfl rfl hst.ctx (Y.fieldAddrP fa38_1 rfl) ?_
                first
                | refine Ops.y rfl rfl rfl hst.ctx (Y.load 0 Try.isAgg3 rfl rfl rfl) ?_
                | refine Ops.y rfl rfl rfl hst.ctx (Y.load 1 Try.isAgg3 rfl rfl rfl) ?_
                | refine Ops.y rfl rfl rfl hst.ctx (Y.load 2 Try.isAgg3 rfl rfl rfl) ?_
                | refine Ops.y rfl rfl rfl hst.ctx (Y.load 3 Try.isAgg3 rfl rfl rfl) ?_
                | refine Ops.y rfl rfl rfl hst.ctx (Y.load 4 Try.isAgg3 rfl rfl rfl) ?_
                | refine Ops.y rfl rfl rfl hst.ctx (Y.load 5 Try.isAgg3 rfl rfl rfl) ?_
                | refine Ops.y rfl rfl rfl hst.ctx (Y.load 6 Try.isAgg3 rfl rfl rfl) ?_
                | refine Ops.y rfl rfl rfl hst.ctx (Y.load 7 Try.isAgg3 rfl rfl rfl) ?_
                | refine Ops.y rfl rfl rfl hst.ctx (Y.load 8 Try.isAgg3 rfl rfl rfl) ?_
                | refine Ops.y rfl rfl rfl hst.ctx (Y.load 9 Try.isAgg3 rfl rfl rfl) ?_
                first
                | refine Ops.y rfl rfl rfl hst.ctx (Y.fieldAddr fa42_2 rfl) ?_
                | refine Ops.y rfl rfl rfl hst.ctx (Y.fieldAddrP fa42_2 rfl) ?_
                first
                | refine Ops.y rfl rfl rfl hst.ctx (Y.load 0 Try.isAgg3 rfl rfl rfl) ?_
                | refine Ops.y rfl rfl rfl hst.ctx (Y.load 1 Try.isAgg3 rfl rfl rfl) ?_
                | refine Ops.y rfl rfl rfl hst.ctx (Y.load 2 Try.isAgg3 rfl rfl rfl) ?_
                | refine Ops.y rfl rfl rfl hst.ctx (Y.load 3 Try.isAgg3 rfl rfl rfl) ?_
                | refine Ops.y rfl rfl rfl hst.ctx (Y.load 4 Try.isAgg3 rfl rfl rfl) ?_
                | refine Ops.y rfl rfl rfl hst.ctx (Y.load 5 Try.isAgg3 rfl rfl rfl) ?_
                | refine Ops.y rfl rfl rfl hst.ctx (Y.load 6 Try.isAgg3 rfl rfl rfl) ?_
                | refine Ops.y rfl rfl rfl hst.ctx (Y.load 7 Try.isAgg3 rfl rfl rfl) ?_
                | refine Ops.y rfl rfl rfl hst.ctx (Y.load 8 Try.isAgg3 rfl rfl rfl) ?_
                | refine Ops.y rfl rfl rfl hst.ctx (Y.load 9 Try.isAgg3 rfl rfl rfl) ?_
                refine Ops.yb rfl rfl rfl hst.ctx (Y.neq rfl rfl) (fun b75 hb75 => ?_)
                refine Ops.y rfl rfl rfl hst.ctx (Y.pick (.bool _) rfl rfl) ?_
                refine Ops.done rfl ?_
                cases b75
                · replace hb75 := of_decide_eq_false hb75.symm
                  refine W.condF rfl rfl ?_
                  refine W.skip rfl ?_
                  refine W.seq rfl ?_
                  obtain ⟨q2, R2, v2, hrel2, hst⟩ : ∃ q2 R2 v2, Rel q2 R2 ∧ St W1 [] _ (QR bl ((k : Int) + 1) q2 :: cellsR p20 [v2] 36 :: slR v2 R2.length (ics R2) :: cellsR p6 (clc (l.getD k cl0)) 28 :: []) G := by
                    first
                    | exact ⟨_, _, _, hrel.push hq48 _ _, hst.older (by omega)⟩
                    | exact ⟨_, _, _, hrel.pop hq48 _, (hst.drop.up3.drop.up3).older (by omega)⟩
                    | exact ⟨_, _, _, hrel.tick hq48 _, hst⟩
                    | exact ⟨_, _, _, hrel.clear hq48 _, hst.older (by omega)⟩
                    | exact ⟨_, _, _, hrel, hst.older (by omega)⟩
                  have hq2 := hst.qfacts
                  have ht2 := tot_le hq2.1 hq2.2.1
                  rw [hrel2.tot hq2.1] at ht2
                  have hll := hrel2.len (l.getD k cl0).who
                  refine W.drawn rfl (by kernel_rfl) (Ctx _ _ ([cellsR p6 (clc (l.getD k cl0)) 28]) (_)) [] [(0, 0), (1, 0), (2, 0), (4, 0), (5, 0), (6, 0), (3, 1), (7, 1), (8, 0)] rfl (by kernel_rfl) hst.drew.ctx3 ?_
                  replace hst := hst.drew
                  generalize World.drew _ = wd at hst ⊢
                  refine Drw.y rfl rfl rfl hst.ctx3 (Y.moveP rfl) ?_
                  first
                  | refine Drw.y rfl rfl rfl hst.ctx3 (Y.fieldAddr fa28_1 rfl) ?_
                  | refine Drw.y rfl rfl rfl hst.ctx3 (Y.fieldAddrP fa28_1 rfl) ?_
                  first
                  | refine Drw.y rfl rfl rfl hst.ctx3 (Y.load 0 Try.isAgg3 rfl rfl rfl) ?_
                  | refine Drw.y rfl rfl rfl hst.ctx3 (Y.load 1 Try.isAgg3 rfl rfl rfl) ?_
                  | refine Drw.y rfl rfl rfl hst.ctx3 (Y.load 2 Try.isAgg3 rfl rfl rfl) ?_
                  | refine Drw.y rfl rfl rfl hst.ctx3 (Y.load 3 Try.isAgg3 rfl rfl rfl) ?_
                  | refine Drw.y rfl rfl rfl hst.ctx3 (Y.load 4 Try.isAgg3 rfl rfl rfl) ?_
                  | refine Drw.y rfl rfl rfl hst.ctx3 (Y.load 5 Try.isAgg3 rfl rfl rfl) ?_
                  | refine Drw.y rfl rfl rfl hst.ctx3 (Y.load 6 Try.isAgg3 rfl rfl rfl) ?_
                  | refine Drw.y rfl rfl rfl hst.ctx3 (Y.load 7 Try.isAgg3 rfl rfl rfl) ?_
                  | refine Drw.y rfl rfl rfl hst.ctx3 (Y.load 8 Try.isAgg3 rfl rfl rfl) ?_
                  | refine Drw.y rfl rfl rfl hst.ctx3 (Y.load 9 Try.isAgg3 rfl rfl rfl) ?_
                  refine Drw.y rfl rfl rfl hst.ctx3 (Y.moveP rfl) ?_
                  first
                  | refine Drw.y rfl rfl rfl hst.ctx3 (Y.fieldAddr fa28_1 rfl) ?_
                  | refine Drw.y rfl rfl rfl hst.ctx3 (Y.fieldAddrP fa28_1 rfl) ?_
                  first
                  | refine Drw.y rfl rfl rfl hst.ctx3 (Y.load 0 Try.isAgg3 rfl rfl rfl) ?_
                  | refine Drw.y rfl rfl rfl hst.ctx3 (Y.load 1 Try.isAgg3 rfl rfl rfl) ?_
                  | refine Drw.y rfl rfl rfl hst.ctx3 (Y.load 2 Try.isAgg3 rfl rfl rfl) ?_
                  | refine Drw.y rfl rfl rfl hst.ctx3 (Y.load 3 Try.isAgg3 rfl rfl rfl) ?_
                  | refine Drw.y rfl rfl rfl hst.ctx3 (Y.load 4 Try.isAgg3 rfl rfl rfl) ?_
                  | refine Drw.y rfl rfl rfl hst.ctx3 (Y.load 5 Try.isAgg3 rfl rfl rfl) ?_
                  | refine Drw.y rfl rfl rfl hst.ctx3 (Y.load 6 Try.isAgg3 rfl rfl rfl) ?_
                  | refine Drw.y rfl rfl rfl hst.ctx3 (Y.load 7 Try.isAgg3 rfl rfl rfl) ?_
                  | refine Drw.y rfl rfl rfl hst.ctx3 (Y.load 8 Try.isAgg3 rfl rfl rfl) ?_
                  | refine Drw.y rfl rfl rfl hst.ctx3 (Y.load 9 Try.isAgg3 rfl rfl rfl) ?_
                  refine Drw.x rfl rfl rfl (X.call cf11 rfl ?_)
                  refine use_call (Len_any bl _ q2 (l.getD k cl0).who _ _ _ _ _ hst (by omega)) rfl ?_; clear hst; rintro e w4 ⟨rfl, hst⟩; refine ⟨_, rfl, ⟨hst.ctx3, ?_⟩⟩
                  refine Drw.x rfl rfl rfl (X.call cf19 rfl ?_)
                  refine use_call (rLen_any (l.getD k cl0).who p20 v2 R2 _ _ _ _ _ hst.up3.up3 (by omega)) rfl ?_; clear hst; rintro e w5 ⟨rfl, hst⟩; replace hst := hst.up3; refine ⟨_, rfl, ⟨hst.ctx3, ?_⟩⟩
                  refine Drw.yb rfl rfl rfl hst.ctx3 (Y.neq rfl rfl) (fun b106 hb106 => ?_)
                  refine Drw.done ?_
                  cases b106
                  · replace hb106 := of_decide_eq_false hb106.symm
                    refine W.condF rfl rfl ?_
                    refine W.skip rfl ?_
                    refine W.region rfl ?_
                    refine Ops.y rfl rfl rfl hst.ctx (Y.addI rfl rfl (by omega)) ?_
                    refine Ops.y rfl rfl rfl hst.ctx (Y.moveI rfl) ?_
                    refine Ops.done rfl ?_
                    exact ⟨(k + 1, q2, R2, v2), ⟨rfl, trivial⟩, ⟨rfl, rfl, rfl, rfl, trivial⟩, ⟨by dsimp only; omega, hrel2, (hst.up4.drop)⟩, by dsimp only; omega⟩
                  · replace hb106 := of_decide_eq_true hb106.symm
                    exact absurd (by rw [hll]) hb106
                · replace hb75 := of_decide_eq_true hb75.symm
                  exact absurd ((congrArg Prod.snd (hrel.popV _).1).trans (by rw [hx])) hb75
              · replace hb68 := of_decide_eq_true hb68.symm
                exact absurd ((congrArg Prod.fst (hrel.popV _).1).trans (by rw [hx])) hb68
            · replace hb62 := of_decide_eq_true hb62.symm
              exact absurd (hb50.trans ((hrel.popV _).2.trans hb57.symm)) hb62
        · replace hb30 := of_decide_eq_true hb30.symm
          refine W.condT rfl rfl ?_
          refine W.seq rfl ?_
          refine W.drawn rfl (by kernel_rfl) (Ctx _ _ ([cellsR p6 (clc (l.getD k cl0)) 28]) (_)) [] [(0, 0), (1, 0), (2, 0), (3, 0), (4, 0), (6, 0), (7, 0), (8, 0), (9, 0), (10, 0), (5, 1), (11, 1), (12, 0)] rfl (by kernel_rfl) hst.drew.ctx3 ?_
          replace hst := hst.drew
          generalize World.drew _ = wd at hst ⊢
          refine Drw.y rfl rfl rfl hst.ctx3 (Y.moveP rfl) ?_
          first
          | refine Drw.y rfl rfl rfl hst.ctx3 (Y.fieldAddr fa28_1 rfl) ?_
          | refine Drw.y rfl rfl rfl hst.ctx3 (Y.fieldAddrP fa28_1 rfl) ?_
          first
          | refine Drw.y rfl rfl rfl hst.ctx3 (Y.load 0 Try.isAgg3 rfl rfl rfl) ?_
          | refine Drw.y rfl rfl rfl hst.ctx3 (Y.load 1 Try.isAgg3 rfl rfl rfl) ?_
          | refine Drw.y rfl rfl rfl hst.ctx3 (Y.load 2 Try.isAgg3 rfl rfl rfl) ?_
          | refine Drw.y rfl rfl rfl hst.ctx3 (Y.load 3 Try.isAgg3 rfl rfl rfl) ?_
          | refine Drw.y rfl rfl rfl hst.ctx3 (Y.load 4 Try.isAgg3 rfl rfl rfl) ?_
          | refine Drw.y rfl rfl rfl hst.ctx3 (Y.load 5 Try.isAgg3 rfl rfl rfl) ?_
          | refine Drw.y rfl rfl rfl hst.ctx3 (Y.load 6 Try.isAgg3 rfl rfl rfl) ?_
          | refine Drw.y rfl rfl rfl hst.ctx3 (Y.load 7 Try.isAgg3 rfl rfl rfl) ?_
          first
          | refine Drw.y rfl rfl rfl hst.ctx3 (Y.fieldAddr fa28_3 rfl) ?_
          | refine Drw.y rfl rfl rfl hst.ctx3 (Y.fieldAddrP fa28_3 rfl) ?_
          first
          | refine Drw.y rfl rfl rfl hst.ctx3 (Y.load 0 Try.isAgg9 rfl rfl rfl) ?_
          | refine Drw.y rfl rfl rfl hst.ctx3 (Y.load 1 Try.isAgg9 rfl rfl rfl) ?_
          | refine Drw.y rfl rfl rfl hst.ctx3 (Y.load 2 Try.isAgg9 rfl rfl rfl) ?_
          | refine Drw.y rfl rfl rfl hst.ctx3 (Y.load 3 Try.isAgg9 rfl rfl rfl) ?_
          | refine Drw.y rfl rfl rfl hst.ctx3 (Y.load 4 Try.isAgg9 rfl rfl rfl) ?_
          | refine Drw.y rfl rfl rfl hst.ctx3 (Y.load 5 Try.isAgg9 rfl rfl rfl) ?_
          | refine Drw.y rfl rfl rfl hst.ctx3 (Y.load 6 Try.isAgg9 rfl rfl rfl) ?_
          | refine Drw.y rfl rfl rfl hst.ctx3 (Y.load 7 Try.isAgg9 rfl rfl rfl) ?_
          refine Drw.y rfl rfl rfl hst.ctx3 (Y.moveP rfl) ?_
          first
          | refine Drw.y rfl rfl rfl hst.ctx3 (Y.fieldAddr fa28_1 rfl) ?_
          | refine Drw.y rfl rfl rfl hst.ctx3 (Y.fieldAddrP fa28_1 rfl) ?_
          first
          | refine Drw.y rfl rfl rfl hst.ctx3 (Y.load 0 Try.isAgg3 rfl rfl rfl) ?_
          | refine Drw.y rfl rfl rfl hst.ctx3 (Y.load 1 Try.isAgg3 rfl rfl rfl) ?_
          | refine Drw.y rfl rfl rfl hst.ctx3 (Y.load 2 Try.isAgg3 rfl rfl rfl) ?_
          | refine Drw.y rfl rfl rfl hst.ctx3 (Y.load 3 Try.isAgg3 rfl rfl rfl) ?_
          | refine Drw.y rfl rfl rfl hst.ctx3 (Y.load 4 Try.isAgg3 rfl rfl rfl) ?_
          | refine Drw.y rfl rfl rfl hst.ctx3 (Y.load 5 Try.isAgg3 rfl rfl rfl) ?_
          | refine Drw.y rfl rfl rfl hst.ctx3 (Y.load 6 Try.isAgg3 rfl rfl rfl) ?_
          | refine Drw.y rfl rfl rfl hst.ctx3 (Y.load 7 Try.isAgg3 rfl rfl rfl) ?_
          first
          | refine Drw.y rfl rfl rfl hst.ctx3 (Y.fieldAddr fa28_3 rfl) ?_
          | refine Drw.y rfl rfl rfl hst.ctx3 (Y.fieldAddrP fa28_3 rfl) ?_
          first
          | refine Drw.y rfl rfl rfl hst.ctx3 (Y.load 0 Try.isAgg9 rfl rfl rfl) ?_
          | refine Drw.y rfl rfl rfl hst.ctx3 (Y.load 1 Try.isAgg9 rfl rfl rfl) ?_
          | refine Drw.y rfl rfl rfl hst.ctx3 (Y.load 2 Try.isAgg9 rfl rfl rfl) ?_
          | refine Drw.y rfl rfl rfl hst.ctx3 (Y.load 3 Try.isAgg9 rfl rfl rfl) ?_
          | refine Drw.y rfl rfl rfl hst.ctx3 (Y.load 4 Try.isAgg9 rfl rfl rfl) ?_
          | refine Drw.y rfl rfl rfl hst.ctx3 (Y.load 5 Try.isAgg9 rfl rfl rfl) ?_
          | refine Drw.y rfl rfl rfl hst.ctx3 (Y.load 6 Try.isAgg9 rfl rfl rfl) ?_
          | refine Drw.y rfl rfl rfl hst.ctx3 (Y.load 7 Try.isAgg9 rfl rfl rfl) ?_
          refine Drw.x rfl rfl rfl (X.call cf10 rfl ?_)
          refine use_call (Push_any bl _ qs (l.getD k cl0).who (l.getD k cl0).s _ _ _ _ _ hst (by omega)) rfl ?_; clear hst; rintro e w2 ⟨rfl, hst⟩; refine ⟨_, rfl, ⟨hst.ctx3, ?_⟩⟩
          refine Drw.x rfl rfl rfl (X.call cf13 rfl ?_)
          refine use_call (rPush_any (l.getD k cl0).who (l.getD k cl0).s p20 v R _ _ _ _ _ hst.up3.up3 (by omega)) rfl ?_; clear hst; rintro e w2 ⟨rfl, v2, hst⟩; replace hst := hst.up3; refine ⟨_, rfl, ⟨hst.ctx3, ?_⟩⟩
          refine Drw.yb rfl rfl rfl hst.ctx3 (Y.neq rfl rfl) (fun b43 hb43 => ?_)
          refine Drw.done ?_
          cases b43
          · replace hb43 := of_decide_eq_false hb43.symm
            refine W.condF rfl rfl ?_
            refine W.skip rfl ?_
            refine W.seq rfl ?_
            obtain ⟨q2, R2, v2, hrel2, hst⟩ : ∃ q2 R2 v2, Rel q2 R2 ∧ St W1 [] _ (QR bl ((k : Int) + 1) q2 :: cellsR p20 [v2] 36 :: slR v2 R2.length (ics R2) :: cellsR p6 (clc (l.getD k cl0)) 28 :: []) G := by
              first
              | exact ⟨_, _, _, hrel.push hq48 _ _, hst.older (by omega)⟩
              | exact ⟨_, _, _, hrel.pop hq48 _, (hst.drop.up3.drop.up3).older (by omega)⟩
              | exact ⟨_, _, _, hrel.tick hq48 _, hst⟩
              | exact ⟨_, _, _, hrel.clear hq48 _, hst.older (by omega)⟩
              | exact ⟨_, _, _, hrel, hst.older (by omega)⟩
            have hq2 := hst.qfacts
            have ht2 := tot_le hq2.1 hq2.2.1
            rw [hrel2.tot hq2.1] at ht2
            have hll := hrel2.len (l.getD k cl0).who
            refine W.drawn rfl (by kernel_rfl) (Ctx _ _ ([cellsR p6 (clc (l.getD k cl0)) 28]) (_)) [] [(0, 0), (1, 0), (2, 0), (4, 0), (5, 0), (6, 0), (3, 1), (7, 1), (8, 0)] rfl (by kernel_rfl) hst.drew.ctx3 ?_
            replace hst := hst.drew
            generalize World.drew _ = wd at hst ⊢
            refine Drw.y rfl rfl rfl hst.ctx3 (Y.moveP rfl) ?_
            first
            | refine Drw.y rfl rfl rfl hst.ctx3 (Y.fieldAddr fa28_1 rfl) ?_
            | refine Drw.y rfl rfl rfl hst.ctx3 (Y.fieldAddrP fa28_1 rfl) ?_
            first
            | refine Drw.y rfl rfl rfl hst.ctx3 (Y.load 0 Try.isAgg3 rfl rfl rfl) ?_
            | refine Drw.y rfl rfl rfl hst.ctx3 (Y.load 1 Try.isAgg3 rfl rfl rfl) ?_
            | refine Drw.y rfl rfl rfl hst.ctx3 (Y.load 2 Try.isAgg3 rfl rfl rfl) ?_
            | refine Drw.y rfl rfl rfl hst.ctx3 (Y.load 3 Try.isAgg3 rfl rfl rfl) ?_
            | refine Drw.y rfl rfl rfl hst.ctx3 (Y.load 4 Try.isAgg3 rfl rfl rfl) ?_
            | refine Drw.y rfl rfl rfl hst.ctx3 (Y.load 5 Try.isAgg3 rfl rfl rfl) ?_
            | refine Drw.y rfl rfl rfl hst.ctx3 (Y.load 6 Try.isAgg3 rfl rfl rfl) ?_
            | refine Drw.y rfl rfl rfl hst.ctx3 (Y.load 7 Try.isAgg3 rfl rfl rfl) ?_
            refine Drw.y rfl rfl rfl hst.ctx3 (Y.moveP rfl) ?_
            first
            | refine Drw.y rfl rfl rfl hst.ctx3 (Y.fieldAddr fa28_1 rfl) ?_
            | refine Drw.y rfl rfl rfl hst.ctx3 (Y.fieldAddrP fa28_1 rfl) ?_
            first
            | refine Drw.y rfl rfl rfl hst.ctx3 (Y.load 0 Try.isAgg3 rfl rfl rfl) ?_
            | refine Drw.y rfl rfl rfl hst.ctx3 (Y.load 1 Try.isAgg3 rfl rfl rfl) ?_
            | refine Drw.y rfl rfl rfl hst.ctx3 (Y.load 2 Try.isAgg3 rfl rfl rfl) ?_
            | refine Drw.y rfl rfl rfl hst.ctx3 (Y.load 3 Try.isAgg3 rfl rfl rfl) ?_
            | refine Drw.y rfl rfl rfl hst.ctx3 (Y.load 4 Try.isAgg3 rfl rfl rfl) ?_
            | refine Drw.y rfl rfl rfl hst.ctx3 (Y.load 5 Try.isAgg3 rfl rfl rfl) ?_
            | refine Drw.y rfl rfl rfl hst.ctx3 (Y.load 6 Try.isAgg3 rfl rfl rfl) ?_
            | refine Drw.y rfl rfl rfl hst.ctx3 (Y.load 7 Try.isAgg3 rfl rfl rfl) ?_
            refine Drw.x rfl rfl rfl (X.call cf11 rfl ?_)
            refine use_call (Len_any bl _ q2 (l.getD k cl0).who _ _ _ _ _ hst (by omega)) rfl ?_; clear hst; rintro e w4 ⟨rfl, hst⟩; refine ⟨_, rfl, ⟨hst.ctx3, ?_⟩⟩
            refine Drw.x rfl rfl rfl (X.call cf19 rfl ?_)
            refine use_call (rLen_any (l.getD k cl0).who p20 v2 R2 _ _ _ _ _ hst.up3.up3 (by omega)) rfl ?_; clear hst; rintro e w5 ⟨rfl, hst⟩; replace hst := hst.up3; refine ⟨_, rfl, ⟨hst.ctx3, ?_⟩⟩
            refine Drw.yb rfl rfl rfl hst.ctx3 (Y.neq rfl rfl) (fun b106 hb106 => ?_)
            refine Drw.done ?_
            cases b106
            · replace hb106 := of_decide_eq_false hb106.symm
              refine W.condF rfl rfl ?_
              refine W.skip rfl ?_
              refine W.region rfl ?_
              refine Ops.y rfl rfl rfl hst.ctx (Y.addI rfl rfl (by omega)) ?_
              refine Ops.y rfl rfl rfl hst.ctx (Y.moveI rfl) ?_
              refine Ops.done rfl ?_
              exact ⟨(k + 1, q2, R2, v2), ⟨rfl, trivial⟩, ⟨rfl, rfl, rfl, rfl, trivial⟩, ⟨by dsimp only; omega, hrel2, (hst.up4.drop)⟩, by dsimp only; omega⟩
            · replace hb106 := of_decide_eq_true hb106.symm
              exact absurd (by rw [hll]) hb106
          · replace hb43 := of_decide_eq_true hb43.symm
            exact absurd (hrel.pushE _ _) hb43
  · skip
    refine W.condT rfl rfl ?_
    refine W.seq rfl ?_
    refine W.region rfl ?_
    refine Ops.y rfl rfl rfl hst.ctx (Y.assignB rfl) ?_
    refine Ops.done rfl ?_
    refine W.ret rfl ?_
    refine ⟨_, Rslt.one Try.results4 rfl, ?_⟩
    exact ⟨rfl, hst.below⟩
end Go.Proofs.Ytcafmbbimoddjaa.LN
