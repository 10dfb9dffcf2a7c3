/- The walk of LaneParts. -/
import Derived.Test.YtcafmbbimoddjaaLO
set_option linter.unusedVariables false
set_option linter.unusedSimpArgs false
namespace Go.Proofs.Ytcafmbbimoddjaa.LN
open Go.RowKit Go.Proofs.Ytcafmbbimoddjaa.K
theorem cf17 : ∀ args w, (callFunc 17 args).run Try.prog w = .ok (.enter 17 args) w := fun _ _ => by simp [go_sem]

theorem toList_iff (a b : ByteArray) : a.toList = b.toList ↔ a = b := by
  have := toList_dec a b
  rw [Bool.eq_iff_iff, beq_iff_eq, decide_eq_true_eq] at this
  exact this
theorem neItem {S ρ ty} {x y : Operand} {t' : TypeId} {a b : ByteArray} {m n : Int} (hx : ev ρ x = .agg #[.string a, .int .i64 m]) (hy : ev ρ y = .agg #[.string b, .int .i64 n]) : Y Try.prog S ρ (.binOp .neq 38 x y t') ty (.bool (decide (¬ (a = b ∧ m = n)))) := fun w _ o ho _ => by
  have he : ∀ w, (eqGuard .neq 38 x y (.agg #[.string a, .int .i64 m]) (.agg #[.string b, .int .i64 n])).run Try.prog w = .ok () w := fun w => by unfold eqGuard; simp [go_sem]
  have h1 : (Op.equalIn 10000 38 (.agg #[.string a, .int .i64 m]) (.agg #[.string b, .int .i64 n])).run Try.prog w = .ok (decide (a = b ∧ m = n)) w := by
    have h : (Op.equalIn (9999 + 1) 38 (.agg #[.string a, .int .i64 m]) (.agg #[.string b, .int .i64 n])).run Try.prog w = (if a.toList = b.toList then if m = n then Result.ok true w else Result.ok false w else Result.ok false w) := by simp [go_sem]
    rw [h]
    by_cases e1 : a = b
    · by_cases e2 : m = n <;> simp [e1, e2]
    · rw [if_neg (fun e => e1 ((toList_iff a b).1 e))]; simp [e1]
  have h2 : (Go.binOp .neq 38 (.agg #[.string a, .int .i64 m]) (.agg #[.string b, .int .i64 n])).run Try.prog w = .ok (.bool (decide (¬ (a = b ∧ m = n)))) w := by
    rw [run_neq_struct, h1]
    simp only [Result.andThen_ok]
    congr 2
    by_cases e : a = b ∧ m = n <;> simp [e]
  simp only [execOp, ho, hx, hy]
  simp only [Sem.run_bind, he, Result.andThen_ok, h2, Sem.run_pure]

/-! ### What is done to others -/
theorem qat_set {qs : Qs} {i who : Int} {q : List It} (hi : inR i) (h : inR who) (hne : i ≠ who) : qat (qs.set i.toNat q) who = qat qs who := by
  unfold qat
  rw [List.getD_eq_getElem?_getD, List.getD_eq_getElem?_getD, List.getElem?_set_ne (by unfold inR at hi h; omega)]
theorem qat_set_eq {qs : Qs} {who : Int} {q : List It} (h : inR who) (hl : qs.length = 48) : qat (qs.set who.toNat q) who = q := by
  unfold qat
  rw [List.getD_eq_getElem?_getD, List.getElem?_set_self (by rw [hl]; exact h.lt)]
  rfl
theorem qat_push_ne {qs : Qs} {i who : Int} (s : ByteArray) (h : inR who) (hne : i ≠ who) : qat (pushQ qs i s) who = qat qs who := by
  unfold pushQ
  split
  · rename_i hc; exact qat_set hc.1 h hne
  · rfl
theorem qat_pop_ne {qs : Qs} {i who : Int} (h : inR who) (hne : i ≠ who) : qat (popQ qs i) who = qat qs who := by
  unfold popQ
  split
  · rename_i hc; exact qat_set hc h hne
  · rfl
theorem qat_clear_ne {qs : Qs} {i who : Int} (h : inR who) (hne : i ≠ who) : qat (clearQ qs i) who = qat qs who := by
  unfold clearQ
  split
  · rename_i hc; exact qat_set hc h hne
  · rfl
/-- Of one neighbour's lane the two are alike. -/
def Like (a b : Qs) (who : Int) : Prop := inR who → qat a who = qat b who
theorem Like.push {a b : Qs} {who : Int} (h : Like a b who) (ha : a.length = 48) (hb : b.length = 48) (s : ByteArray) : Like (pushQ a who s) (pushQ b who s) who := by
  intro hin
  have := h hin
  unfold pushQ
  rw [this]
  by_cases hs : s.size ≤ 4096
  · rw [if_pos ⟨hin, hs⟩, if_pos ⟨hin, hs⟩, qat_set_eq hin ha, qat_set_eq hin hb]
  · rw [if_neg (fun x => hs x.2), if_neg (fun x => hs x.2), this]
theorem Like.pop {a b : Qs} {who : Int} (h : Like a b who) (ha : a.length = 48) (hb : b.length = 48) : Like (popQ a who) (popQ b who) who := by
  intro hin
  have := h hin
  unfold popQ
  rw [if_pos hin, if_pos hin, qat_set_eq hin ha, qat_set_eq hin hb, this]
theorem Like.val {a b : Qs} {who : Int} (h : Like a b who) : popV a who = popV b who ∧ popB a who = popB b who := by
  unfold popV popB
  by_cases hin : inR who
  · rw [if_pos hin, if_pos hin, h hin]; exact ⟨rfl, rfl⟩
  · rw [if_neg hin, if_neg hin]; exact ⟨rfl, decide_eq_decide.2 ⟨fun x => absurd x.1 hin, fun x => absurd x.1 hin⟩⟩

set_option maxHeartbeats 4000000 in
theorem LaneParts_walk (v : Value) (l : List Cl) (who : Int) (W1 : World) (hs : Sl W1 v l.length (ccs l)) (hl : l.length ≤ 9223372036854775807) :
    Calls Try.prog 6 #[v, .int .i64 who] W1 fun e w' => e = .returned (.bool true) ∧ Below W1.heap.size W1 w' := by
  have hst := (St.start W1).arg hs
  obtain ⟨A, cap, rfl, hcap, -⟩ := hs
  have hr : Rds [] [slR (.slice A l.length cap) l.length (ccs l)] (.slice A l.length cap) l.length (ccs l) := Rds.slG 0 rfl
  generalize hG : [slR (.slice A l.length cap) l.length (ccs l)] = G at hst hr
  refine W.func Try.func6 rfl Try.ntmps6 rfl ?_
  refine W.seq rfl ?_
  refine W.region rfl ?_
  refine Ops.y rfl rfl rfl hst.ctx (Y.assignB rfl) ?_
  refine Ops.done rfl ?_
  refine W.seq rfl ?_
  refine W.seq rfl ?_
  refine W.region rfl ?_
  refine Ops.x rfl rfl rfl (X.call cf7 rfl ?_)
  refine use_call (alive_any _ _ _ _ _ hst) rfl ?_; clear hst; rintro e w1 ⟨rfl, hst⟩; refine ⟨_, rfl, ?_⟩
  refine Ops.y rfl rfl rfl hst.ctx (Y.not rfl) ?_
  refine Ops.done rfl ?_
  refine W.condF rfl rfl ?_
  refine W.skip rfl ?_
  refine W.seq rfl ?_
  refine W.seq rfl ?_
  refine W.region rfl ?_
  refine Ops.y rfl rfl rfl hst.ctx (Y.moveS rfl) ?_
  refine Ops.x rfl rfl rfl (X.call cf8 rfl ?_)
  refine use_call (great_any _ l _ _ _ _ _ hst hr hl) rfl ?_; clear hst; rintro e w1 ⟨b17, rfl, hgr, hst⟩; generalize hb17 : b17 = c17 at hgr ⊢; refine ⟨_, rfl, ?_⟩
  refine Ops.done rfl ?_
  cases c17
  · skip
    refine W.condF rfl rfl ?_
    refine W.skip rfl ?_
    refine W.seq rfl ?_
    refine W.region rfl ?_
    refine Ops.x rfl rfl rfl (X.call cf9 rfl ?_)
    refine use_call (New_any _ _ _ _ _ hst) rfl ?_; clear hst; rintro e w1 ⟨bl, rfl, hst⟩; refine ⟨_, rfl, ?_⟩
    refine Ops.x rfl rfl rfl (X.call cf9 rfl ?_)
    refine use_call (New_any _ _ _ _ _ hst) rfl ?_; clear hst; rintro e w1 ⟨bo, rfl, hst⟩; refine ⟨_, rfl, ?_⟩; replace hst := hst.swap
    refine Ops.y rfl rfl rfl hst.ctx (Y.assignP rfl) ?_
    refine Ops.y rfl rfl rfl hst.ctx (Y.assignP rfl) ?_
    refine Ops.done rfl ?_
    refine W.seq rfl ?_
    refine W.seq rfl ?_
    refine W.region rfl ?_
    refine Ops.y rfl rfl rfl hst.ctx (Y.moveS rfl) ?_
    refine Ops.y rfl rfl rfl hst.ctx (Y.lenS Try.underlying22 rfl) ?_
    refine Ops.y rfl rfl rfl hst.ctx (Y.moveI rfl) ?_
    refine Ops.done rfl ?_
    refine W.block rfl ?_
    refine W.loop (γ := Nat × Qs × Qs) [(1, .int _ _), (5, .pointer _), (6, .pointer _), (20, .slice _ _ _), (21, .int _ _)] (fun x => [(22, .int .i64 (x.1 : Int))]) (fun x w => x.1 ≤ l.length ∧ Like x.2.1 x.2.2 who ∧ St W1 [] w (QR bl 0 x.2.1 :: QR bo 0 x.2.2 :: []) G) (fun x => l.length - x.1) ((0, q0, q0)) rfl ⟨rfl, rfl, rfl, rfl, rfl, trivial⟩ ?_ ?_ ?_
    · exact ⟨rfl, trivial⟩
    · exact ⟨by omega, fun _ => rfl, hst⟩
    · clear hst; rintro ⟨k, ql, qo⟩ jA w3 ⟨hk, hlk, hst⟩
      dsimp only at hk hlk hst ⊢
      have hql := hst.qfacts.1
      have hqo := hst.swap.qfacts.1
      refine W.seq rfl ?_
      refine W.region rfl ?_
      refine Ops.yb rfl rfl rfl hst.ctx (Y.lss rfl rfl) (fun b23 hb23 => ?_)
      refine Ops.done rfl ?_
      refine W.seq rfl ?_
      cases b23
      · replace hb23 := of_decide_eq_false hb23.symm
        refine W.condF rfl rfl ?_
        refine W.exit rfl ?_
        refine W.seq rfl ?_
        refine W.seq rfl ?_
        refine W.region rfl ?_
        refine Ops.y rfl rfl rfl hst.ctx (Y.assignI rfl) ?_
        refine Ops.done rfl ?_
        refine W.block rfl ?_
        refine W.loop (γ := Nat × Qs × Qs) [(1, .int _ _), (5, .pointer _), (6, .pointer _)] (fun x => [(9, .int .i64 (x.1 : Int))]) (fun x w => x.1 ≤ 65 ∧ Like x.2.1 x.2.2 who ∧ St W1 [] w (QR bl 0 x.2.1 :: QR bo 0 x.2.2 :: []) G) (fun x => 65 - x.1) ((0, ql, qo)) rfl ⟨rfl, rfl, rfl, trivial⟩ ?_ ?_ ?_
        · exact ⟨rfl, trivial⟩
        · exact ⟨by dsimp only; omega, hlk, hst⟩
        · clear hst; rintro ⟨i, ql, qo⟩ jB w4 ⟨hi, hlk, hst⟩
          dsimp only at hi hlk hst ⊢
          have hql := hst.qfacts.1
          have hqo := hst.swap.qfacts.1
          have hval := hlk.val
          refine W.seq rfl ?_
          refine W.seq rfl ?_
          refine W.region rfl ?_
          refine Ops.y rfl rfl rfl hst.ctx (Y.moveI rfl) ?_
          refine Ops.yb rfl rfl rfl hst.ctx (Y.leq rfl rfl) (fun b73 hb73 => ?_)
          refine Ops.done rfl ?_
          cases b73
          · replace hb73 := of_decide_eq_false hb73.symm
            refine W.condF rfl rfl ?_
            refine W.exit rfl ?_
            refine W.seq rfl ?_
            refine W.region rfl ?_
            refine Ops.y rfl rfl rfl hst.ctx (Y.assignB rfl) ?_
            refine Ops.done rfl ?_
            refine W.ret rfl ?_
            refine ⟨_, Rslt.one Try.results6 rfl, ?_⟩
            exact ⟨rfl, by first | exact hst.below | exact hst.drop.below⟩
          · replace hb73 := of_decide_eq_true hb73.symm
            refine W.condT rfl rfl ?_
            refine W.skip rfl ?_
            refine W.seq rfl ?_
            refine W.block rfl ?_
            refine W.seq rfl ?_
            refine W.region rfl ?_
            refine Ops.y rfl rfl rfl hst.ctx (Y.moveP rfl) ?_
            refine Ops.y rfl rfl rfl hst.ctx (Y.moveI rfl) ?_
            refine Ops.x rfl rfl rfl (X.call cf14 rfl ?_)
            replace hst := hst; refine use_call (Pop_any bl _ ql who _ _ _ _ _ hst (by decide)) rfl ?_; clear hst; rintro e w2 ⟨b79, rfl, hb79, hst⟩; refine ⟨_, rfl, ?_⟩
            refine Ops.y rfl rfl rfl hst.ctx (Y.moveU rfl) ?_
            refine Ops.y rfl rfl rfl hst.ctx (Y.extract rfl rfl) ?_
            refine Ops.y rfl rfl rfl hst.ctx (Y.extract rfl rfl) ?_
            refine Ops.x rfl rfl rfl (X.allocA hst Try.zeroValue38 ?_)
            clear hst; intro p10 w10 hst
            first
            | refine Ops.x rfl rfl rfl (X.storeS hst 0 Try.sizeOf38 rfl rfl rfl rfl rfl (Nat.le_of_ble_eq_true rfl) rfl rfl ?_)
            | refine Ops.x rfl rfl rfl (X.storeS hst 1 Try.sizeOf38 rfl rfl rfl rfl rfl (Nat.le_of_ble_eq_true rfl) rfl rfl ?_)
            clear hst; intro w21_7 hst
            try simp only [List.set_cons_zero, List.set_cons_succ, Nat.zero_add, Nat.reduceAdd, splice, List.take, List.drop, List.append_eq, List.nil_append, List.cons_append, List.length_cons, List.length_nil] at hst
            refine Ops.y rfl rfl rfl hst.ctx (Y.assignB rfl) ?_
            refine Ops.done rfl ?_
            refine W.seq rfl ?_
            refine W.region rfl ?_
            refine Ops.y rfl rfl rfl hst.ctx (Y.moveP rfl) ?_
            refine Ops.y rfl rfl rfl hst.ctx (Y.moveI rfl) ?_
            refine Ops.x rfl rfl rfl (X.call cf14 rfl ?_)
            replace hst := hst.up3; refine use_call (Pop_any bo _ qo who _ _ _ _ _ hst (by decide)) rfl ?_; clear hst; rintro e w2 ⟨b85, rfl, hb85, hst⟩; refine ⟨_, rfl, ?_⟩; replace hst := hst.up3.up3
            refine Ops.y rfl rfl rfl hst.ctx (Y.moveU rfl) ?_
            refine Ops.y rfl rfl rfl hst.ctx (Y.extract rfl rfl) ?_
            refine Ops.y rfl rfl rfl hst.ctx (Y.extract rfl rfl) ?_
            refine Ops.x rfl rfl rfl (X.allocA hst Try.zeroValue38 ?_)
            clear hst; intro p12 w12 hst
            first
            | refine Ops.x rfl rfl rfl (X.storeS hst 0 Try.sizeOf38 rfl rfl rfl rfl rfl (Nat.le_of_ble_eq_true rfl) rfl rfl ?_)
            | refine Ops.x rfl rfl rfl (X.storeS hst 1 Try.sizeOf38 rfl rfl rfl rfl rfl (Nat.le_of_ble_eq_true rfl) rfl rfl ?_)
            | refine Ops.x rfl rfl rfl (X.storeS hst 2 Try.sizeOf38 rfl rfl rfl rfl rfl (Nat.le_of_ble_eq_true rfl) rfl rfl ?_)
            clear hst; intro w22_7 hst
            try simp only [List.set_cons_zero, List.set_cons_succ, Nat.zero_add, Nat.reduceAdd, splice, List.take, List.drop, List.append_eq, List.nil_append, List.cons_append, List.length_cons, List.length_nil] at hst
            refine Ops.y rfl rfl rfl hst.ctx (Y.assignB rfl) ?_
            refine Ops.done rfl ?_
            refine W.seq rfl ?_
            refine W.region rfl ?_
            first
            | refine Ops.y rfl rfl rfl hst.ctx (Y.loadA 0 Try.isAgg38 Try.sizeOf38 rfl rfl rfl rfl) ?_
            | refine Ops.y rfl rfl rfl hst.ctx (Y.loadA 1 Try.isAgg38 Try.sizeOf38 rfl rfl rfl rfl) ?_
            | refine Ops.y rfl rfl rfl hst.ctx (Y.loadA 2 Try.isAgg38 Try.sizeOf38 rfl rfl rfl rfl) ?_
            first
            | refine Ops.y rfl rfl rfl hst.ctx (Y.loadA 0 Try.isAgg38 Try.sizeOf38 rfl rfl rfl rfl) ?_
            | refine Ops.y rfl rfl rfl hst.ctx (Y.loadA 1 Try.isAgg38 Try.sizeOf38 rfl rfl rfl rfl) ?_
            | refine Ops.y rfl rfl rfl hst.ctx (Y.loadA 2 Try.isAgg38 Try.sizeOf38 rfl rfl rfl rfl) ?_
            refine Ops.yb rfl rfl rfl hst.ctx (neItem rfl rfl) (fun b90 hb90 => ?_)
            refine Ops.y rfl rfl rfl hst.ctx (Y.moveB rfl) ?_
            cases b90
            · replace hb90 := of_decide_eq_false hb90.symm
              refine Ops.y rfl rfl rfl hst.ctx (Y.moveB rfl) ?_
              refine Ops.y rfl rfl rfl hst.ctx (Y.moveB rfl) ?_
              refine Ops.yb rfl rfl rfl hst.ctx (Y.neB Try.underlying4 rfl rfl) (fun b94 hb94 => ?_)
              refine Ops.y rfl rfl rfl hst.ctx (Y.pick (.bool _) rfl rfl) ?_
              refine Ops.done rfl ?_
              cases b94
              · replace hb94 := of_decide_eq_false hb94.symm
                refine W.condF rfl rfl ?_
                refine W.skip rfl ?_
                refine W.region rfl ?_
                refine Ops.y rfl rfl rfl hst.ctx (Y.moveI rfl) ?_
                refine Ops.y rfl rfl rfl hst.ctx (Y.addI rfl rfl (by omega)) ?_
                refine Ops.y rfl rfl rfl hst.ctx (Y.assignI rfl) ?_
                refine Ops.done rfl ?_
                exact ⟨(i + 1, popQ ql who, popQ qo who), ⟨rfl, trivial⟩, ⟨rfl, rfl, rfl, trivial⟩, ⟨by dsimp only; omega, hlk.pop hql hqo, hst.drop.drop⟩, by dsimp only; omega⟩
              · replace hb94 := of_decide_eq_true hb94.symm
                exact absurd (hb79.trans (hval.2.trans hb85.symm)) hb94
            · replace hb90 := of_decide_eq_true hb90.symm
              exact absurd ⟨congrArg Prod.fst hval.1, congrArg Prod.snd hval.1⟩ hb90
      · replace hb23 := of_decide_eq_true hb23.symm
        refine W.condT rfl rfl ?_
        refine W.skip rfl ?_
        refine W.seq rfl ?_
        refine W.block rfl ?_
        refine W.seq rfl ?_
        refine W.region rfl ?_
        have hk1 : k < l.length := by omega
        refine Ops.y rfl rfl rfl hst.ctx (Y.indexAddr Try.underlying22 Try.sizeOf28 rfl rfl (((hr.mono (fun r h => nomatch h) (fun r h => h)).sl hst).ne (by rw [ccs_length]; omega)) (by omega)) ?_
        refine Ops.y rfl rfl rfl hst.ctx (Y.loadSlA Try.isAgg28 Try.sizeOf28 rfl (hr.mono (fun r h => nomatch h) (fun r h => h)) (ccs_at l k hk1) rfl) ?_
        refine Ops.x rfl rfl rfl (X.allocA hst Try.zeroValue28 ?_)
        clear hst; intro p8 w8 hst
        first
        | refine Ops.x rfl rfl rfl (X.storeS hst 0 Try.sizeOf28 rfl rfl rfl rfl rfl (Nat.le_of_ble_eq_true rfl) rfl rfl ?_)
        | refine Ops.x rfl rfl rfl (X.storeS hst 1 Try.sizeOf28 rfl rfl rfl rfl rfl (Nat.le_of_ble_eq_true rfl) rfl rfl ?_)
        clear hst; intro w8_3 hst
        try simp only [List.set_cons_zero, List.set_cons_succ, Nat.zero_add, Nat.reduceAdd, splice, List.take, List.drop, List.append_eq, List.nil_append, List.cons_append, List.length_cons, List.length_nil] at hst
        refine Ops.done rfl ?_
        refine W.seq rfl ?_
        refine W.region rfl ?_
        first
        | refine Ops.y rfl rfl rfl hst.ctx (Y.fieldAddr fa28_0 rfl) ?_
        | refine Ops.y rfl rfl rfl hst.ctx (Y.fieldAddrP fa28_0 rfl) ?_
        first
        | refine Ops.y rfl rfl rfl hst.ctx (Y.load 0 Try.isAgg3 rfl rfl rfl) ?_
        | refine Ops.y rfl rfl rfl hst.ctx (Y.load 1 Try.isAgg3 rfl rfl rfl) ?_
        refine Ops.yb rfl rfl rfl hst.ctx (Y.eql rfl rfl) (fun b28 hb28 => ?_)
        refine Ops.done rfl ?_
        cases b28
        · replace hb28 := of_decide_eq_false hb28.symm
          refine W.condF rfl rfl ?_
          refine W.seq rfl ?_
          refine W.region rfl ?_
          first
          | refine Ops.y rfl rfl rfl hst.ctx (Y.fieldAddr fa28_1 rfl) ?_
          | refine Ops.y rfl rfl rfl hst.ctx (Y.fieldAddrP fa28_1 rfl) ?_
          first
          | refine Ops.y rfl rfl rfl hst.ctx (Y.load 0 Try.isAgg3 rfl rfl rfl) ?_
          | refine Ops.y rfl rfl rfl hst.ctx (Y.load 1 Try.isAgg3 rfl rfl rfl) ?_
          refine Ops.y rfl rfl rfl hst.ctx (Y.moveI rfl) ?_
          refine Ops.yb rfl rfl rfl hst.ctx (Y.neq rfl rfl) (fun b48 hb48 => ?_)
          refine Ops.y rfl rfl rfl hst.ctx (Y.moveB rfl) ?_
          cases b48
          · replace hb48 := of_decide_eq_false hb48.symm
            refine Ops.no rfl rfl rfl ?_
            refine Ops.no rfl rfl rfl ?_
            refine Ops.no rfl rfl rfl ?_
            refine Ops.y rfl rfl rfl hst.ctx (Y.pick (.bool _) rfl rfl) ?_
            refine Ops.done rfl ?_
            refine W.condF rfl rfl ?_
            refine W.seq rfl ?_
            refine W.region rfl ?_
            first
            | refine Ops.y rfl rfl rfl hst.ctx (Y.fieldAddr fa28_1 rfl) ?_
            | refine Ops.y rfl rfl rfl hst.ctx (Y.fieldAddrP fa28_1 rfl) ?_
            first
            | refine Ops.y rfl rfl rfl hst.ctx (Y.load 0 Try.isAgg3 rfl rfl rfl) ?_
            | refine Ops.y rfl rfl rfl hst.ctx (Y.load 1 Try.isAgg3 rfl rfl rfl) ?_
            refine Ops.y rfl rfl rfl hst.ctx (Y.moveI rfl) ?_
            refine Ops.yb rfl rfl rfl hst.ctx (Y.neq rfl rfl) (fun b61 hb61 => ?_)
            refine Ops.y rfl rfl rfl hst.ctx (Y.moveB rfl) ?_
            cases b61
            · replace hb61 := of_decide_eq_false hb61.symm
              refine Ops.no rfl rfl rfl ?_
              refine Ops.no rfl rfl rfl ?_
              refine Ops.no rfl rfl rfl ?_
              refine Ops.y rfl rfl rfl hst.ctx (Y.pick (.bool _) rfl rfl) ?_
              refine Ops.done rfl ?_
              refine W.condF rfl rfl ?_
              refine W.skip rfl ?_
              refine W.region rfl ?_
              refine Ops.y rfl rfl rfl hst.ctx (Y.addI rfl rfl (by omega)) ?_
              refine Ops.y rfl rfl rfl hst.ctx (Y.moveI rfl) ?_
              refine Ops.done rfl ?_
              first
              | exact ⟨(k + 1, pushQ ql (l.getD k cl0).who (l.getD k cl0).s, pushQ qo (l.getD k cl0).who (l.getD k cl0).s), ⟨rfl, trivial⟩, ⟨rfl, rfl, rfl, rfl, rfl, trivial⟩, ⟨by dsimp only; omega, by rw [hb38]; exact hlk.push hql hqo _, hst.drop⟩, by dsimp only; omega⟩
              | exact ⟨(k + 1, pushQ ql (l.getD k cl0).who (l.getD k cl0).s, qo), ⟨rfl, trivial⟩, ⟨rfl, rfl, rfl, rfl, rfl, trivial⟩, ⟨by dsimp only; omega, fun hin => (qat_push_ne _ hin hb38).trans (hlk hin), hst.drop⟩, by dsimp only; omega⟩
              | exact ⟨(k + 1, popQ ql (l.getD k cl0).who, qo), ⟨rfl, trivial⟩, ⟨rfl, rfl, rfl, rfl, rfl, trivial⟩, ⟨by dsimp only; omega, fun hin => (qat_pop_ne hin hb48).trans (hlk hin), hst.drop⟩, by dsimp only; omega⟩
              | exact ⟨(k + 1, clearQ ql (l.getD k cl0).who, qo), ⟨rfl, trivial⟩, ⟨rfl, rfl, rfl, rfl, rfl, trivial⟩, ⟨by dsimp only; omega, fun hin => (qat_clear_ne hin hb61).trans (hlk hin), hst.drop⟩, by dsimp only; omega⟩
              | exact ⟨(k + 1, ql, qo), ⟨rfl, trivial⟩, ⟨rfl, rfl, rfl, rfl, rfl, trivial⟩, ⟨by dsimp only; omega, hlk, hst.drop⟩, by dsimp only; omega⟩
            · replace hb61 := of_decide_eq_true hb61.symm
              first
              | refine Ops.y rfl rfl rfl hst.ctx (Y.fieldAddr fa28_0 rfl) ?_
              | refine Ops.y rfl rfl rfl hst.ctx (Y.fieldAddrP fa28_0 rfl) ?_
              first
              | refine Ops.y rfl rfl rfl hst.ctx (Y.load 0 Try.isAgg3 rfl rfl rfl) ?_
              | refine Ops.y rfl rfl rfl hst.ctx (Y.load 1 Try.isAgg3 rfl rfl rfl) ?_
              refine Ops.yb rfl rfl rfl hst.ctx (Y.eql rfl rfl) (fun b65 hb65 => ?_)
              refine Ops.y rfl rfl rfl hst.ctx (Y.pick (.bool _) rfl rfl) ?_
              refine Ops.done rfl ?_
              cases b65
              · replace hb65 := of_decide_eq_false hb65.symm
                refine W.condF rfl rfl ?_
                refine W.skip rfl ?_
                refine W.region rfl ?_
                refine Ops.y rfl rfl rfl hst.ctx (Y.addI rfl rfl (by omega)) ?_
                refine Ops.y rfl rfl rfl hst.ctx (Y.moveI rfl) ?_
                refine Ops.done rfl ?_
                first
                | exact ⟨(k + 1, pushQ ql (l.getD k cl0).who (l.getD k cl0).s, pushQ qo (l.getD k cl0).who (l.getD k cl0).s), ⟨rfl, trivial⟩, ⟨rfl, rfl, rfl, rfl, rfl, trivial⟩, ⟨by dsimp only; omega, by rw [hb38]; exact hlk.push hql hqo _, hst.drop⟩, by dsimp only; omega⟩
                | exact ⟨(k + 1, pushQ ql (l.getD k cl0).who (l.getD k cl0).s, qo), ⟨rfl, trivial⟩, ⟨rfl, rfl, rfl, rfl, rfl, trivial⟩, ⟨by dsimp only; omega, fun hin => (qat_push_ne _ hin hb38).trans (hlk hin), hst.drop⟩, by dsimp only; omega⟩
                | exact ⟨(k + 1, popQ ql (l.getD k cl0).who, qo), ⟨rfl, trivial⟩, ⟨rfl, rfl, rfl, rfl, rfl, trivial⟩, ⟨by dsimp only; omega, fun hin => (qat_pop_ne hin hb48).trans (hlk hin), hst.drop⟩, by dsimp only; omega⟩
                | exact ⟨(k + 1, clearQ ql (l.getD k cl0).who, qo), ⟨rfl, trivial⟩, ⟨rfl, rfl, rfl, rfl, rfl, trivial⟩, ⟨by dsimp only; omega, fun hin => (qat_clear_ne hin hb61).trans (hlk hin), hst.drop⟩, by dsimp only; omega⟩
                | exact ⟨(k + 1, ql, qo), ⟨rfl, trivial⟩, ⟨rfl, rfl, rfl, rfl, rfl, trivial⟩, ⟨by dsimp only; omega, hlk, hst.drop⟩, by dsimp only; omega⟩
              · replace hb65 := of_decide_eq_true hb65.symm
                refine W.condT rfl rfl ?_
                refine W.region rfl ?_
                refine Ops.y rfl rfl rfl hst.ctx (Y.moveP rfl) ?_
                first
                | refine Ops.y rfl rfl rfl hst.ctx (Y.fieldAddr fa28_1 rfl) ?_
                | refine Ops.y rfl rfl rfl hst.ctx (Y.fieldAddrP fa28_1 rfl) ?_
                first
                | refine Ops.y rfl rfl rfl hst.ctx (Y.load 0 Try.isAgg3 rfl rfl rfl) ?_
                | refine Ops.y rfl rfl rfl hst.ctx (Y.load 1 Try.isAgg3 rfl rfl rfl) ?_
                refine Ops.x rfl rfl rfl (X.call cf17 rfl ?_)
                replace hst := hst.swap; refine use_call (Clear_any bl _ ql (l.getD k cl0).who _ _ _ _ _ hst (by decide)) rfl ?_; clear hst; rintro e w2 ⟨rfl, hst⟩; refine ⟨_, rfl, ?_⟩; replace hst := hst.swap
                refine Ops.done rfl ?_
                refine W.region rfl ?_
                refine Ops.y rfl rfl rfl hst.ctx (Y.addI rfl rfl (by omega)) ?_
                refine Ops.y rfl rfl rfl hst.ctx (Y.moveI rfl) ?_
                refine Ops.done rfl ?_
                first
                | exact ⟨(k + 1, pushQ ql (l.getD k cl0).who (l.getD k cl0).s, pushQ qo (l.getD k cl0).who (l.getD k cl0).s), ⟨rfl, trivial⟩, ⟨rfl, rfl, rfl, rfl, rfl, trivial⟩, ⟨by dsimp only; omega, by rw [hb38]; exact hlk.push hql hqo _, hst.drop⟩, by dsimp only; omega⟩
                | exact ⟨(k + 1, pushQ ql (l.getD k cl0).who (l.getD k cl0).s, qo), ⟨rfl, trivial⟩, ⟨rfl, rfl, rfl, rfl, rfl, trivial⟩, ⟨by dsimp only; omega, fun hin => (qat_push_ne _ hin hb38).trans (hlk hin), hst.drop⟩, by dsimp only; omega⟩
                | exact ⟨(k + 1, popQ ql (l.getD k cl0).who, qo), ⟨rfl, trivial⟩, ⟨rfl, rfl, rfl, rfl, rfl, trivial⟩, ⟨by dsimp only; omega, fun hin => (qat_pop_ne hin hb48).trans (hlk hin), hst.drop⟩, by dsimp only; omega⟩
                | exact ⟨(k + 1, clearQ ql (l.getD k cl0).who, qo), ⟨rfl, trivial⟩, ⟨rfl, rfl, rfl, rfl, rfl, trivial⟩, ⟨by dsimp only; omega, fun hin => (qat_clear_ne hin hb61).trans (hlk hin), hst.drop⟩, by dsimp only; omega⟩
                | exact ⟨(k + 1, ql, qo), ⟨rfl, trivial⟩, ⟨rfl, rfl, rfl, rfl, rfl, trivial⟩, ⟨by dsimp only; omega, hlk, hst.drop⟩, by dsimp only; omega⟩
          · replace hb48 := of_decide_eq_true hb48.symm
            first
            | refine Ops.y rfl rfl rfl hst.ctx (Y.fieldAddr fa28_0 rfl) ?_
            | refine Ops.y rfl rfl rfl hst.ctx (Y.fieldAddrP fa28_0 rfl) ?_
            first
            | refine Ops.y rfl rfl rfl hst.ctx (Y.load 0 Try.isAgg3 rfl rfl rfl) ?_
            | refine Ops.y rfl rfl rfl hst.ctx (Y.load 1 Try.isAgg3 rfl rfl rfl) ?_
            refine Ops.yb rfl rfl rfl hst.ctx (Y.eql rfl rfl) (fun b52 hb52 => ?_)
            refine Ops.y rfl rfl rfl hst.ctx (Y.pick (.bool _) rfl rfl) ?_
            refine Ops.done rfl ?_
            cases b52
            · replace hb52 := of_decide_eq_false hb52.symm
              refine W.condF rfl rfl ?_
              refine W.seq rfl ?_
              refine W.region rfl ?_
              first
              | refine Ops.y rfl rfl rfl hst.ctx (Y.fieldAddr fa28_1 rfl) ?_
              | refine Ops.y rfl rfl rfl hst.ctx (Y.fieldAddrP fa28_1 rfl) ?_
              first
              | refine Ops.y rfl rfl rfl hst.ctx (Y.load 0 Try.isAgg3 rfl rfl rfl) ?_
              | refine Ops.y rfl rfl rfl hst.ctx (Y.load 1 Try.isAgg3 rfl rfl rfl) ?_
              refine Ops.y rfl rfl rfl hst.ctx (Y.moveI rfl) ?_
              refine Ops.yb rfl rfl rfl hst.ctx (Y.neq rfl rfl) (fun b61 hb61 => ?_)
              refine Ops.y rfl rfl rfl hst.ctx (Y.moveB rfl) ?_
              cases b61
              · replace hb61 := of_decide_eq_false hb61.symm
                refine Ops.no rfl rfl rfl ?_
                refine Ops.no rfl rfl rfl ?_
                refine Ops.no rfl rfl rfl ?_
                refine Ops.y rfl rfl rfl hst.ctx (Y.pick (.bool _) rfl rfl) ?_
                refine Ops.done rfl ?_
                refine W.condF rfl rfl ?_
                refine W.skip rfl ?_
                refine W.region rfl ?_
                refine Ops.y rfl rfl rfl hst.ctx (Y.addI rfl rfl (by omega)) ?_
                refine Ops.y rfl rfl rfl hst.ctx (Y.moveI rfl) ?_
                refine Ops.done rfl ?_
                first
                | exact ⟨(k + 1, pushQ ql (l.getD k cl0).who (l.getD k cl0).s, pushQ qo (l.getD k cl0).who (l.getD k cl0).s), ⟨rfl, trivial⟩, ⟨rfl, rfl, rfl, rfl, rfl, trivial⟩, ⟨by dsimp only; omega, by rw [hb38]; exact hlk.push hql hqo _, hst.drop⟩, by dsimp only; omega⟩
                | exact ⟨(k + 1, pushQ ql (l.getD k cl0).who (l.getD k cl0).s, qo), ⟨rfl, trivial⟩, ⟨rfl, rfl, rfl, rfl, rfl, trivial⟩, ⟨by dsimp only; omega, fun hin => (qat_push_ne _ hin hb38).trans (hlk hin), hst.drop⟩, by dsimp only; omega⟩
                | exact ⟨(k + 1, popQ ql (l.getD k cl0).who, qo), ⟨rfl, trivial⟩, ⟨rfl, rfl, rfl, rfl, rfl, trivial⟩, ⟨by dsimp only; omega, fun hin => (qat_pop_ne hin hb48).trans (hlk hin), hst.drop⟩, by dsimp only; omega⟩
                | exact ⟨(k + 1, clearQ ql (l.getD k cl0).who, qo), ⟨rfl, trivial⟩, ⟨rfl, rfl, rfl, rfl, rfl, trivial⟩, ⟨by dsimp only; omega, fun hin => (qat_clear_ne hin hb61).trans (hlk hin), hst.drop⟩, by dsimp only; omega⟩
                | exact ⟨(k + 1, ql, qo), ⟨rfl, trivial⟩, ⟨rfl, rfl, rfl, rfl, rfl, trivial⟩, ⟨by dsimp only; omega, hlk, hst.drop⟩, by dsimp only; omega⟩
              · replace hb61 := of_decide_eq_true hb61.symm
                first
                | refine Ops.y rfl rfl rfl hst.ctx (Y.fieldAddr fa28_0 rfl) ?_
                | refine Ops.y rfl rfl rfl hst.ctx (Y.fieldAddrP fa28_0 rfl) ?_
                first
                | refine Ops.y rfl rfl rfl hst.ctx (Y.load 0 Try.isAgg3 rfl rfl rfl) ?_
                | refine Ops.y rfl rfl rfl hst.ctx (Y.load 1 Try.isAgg3 rfl rfl rfl) ?_
                refine Ops.yb rfl rfl rfl hst.ctx (Y.eql rfl rfl) (fun b65 hb65 => ?_)
                refine Ops.y rfl rfl rfl hst.ctx (Y.pick (.bool _) rfl rfl) ?_
                refine Ops.done rfl ?_
                cases b65
                · replace hb65 := of_decide_eq_false hb65.symm
                  refine W.condF rfl rfl ?_
                  refine W.skip rfl ?_
                  refine W.region rfl ?_
                  refine Ops.y rfl rfl rfl hst.ctx (Y.addI rfl rfl (by omega)) ?_
                  refine Ops.y rfl rfl rfl hst.ctx (Y.moveI rfl) ?_
                  refine Ops.done rfl ?_
                  first
                  | exact ⟨(k + 1, pushQ ql (l.getD k cl0).who (l.getD k cl0).s, pushQ qo (l.getD k cl0).who (l.getD k cl0).s), ⟨rfl, trivial⟩, ⟨rfl, rfl, rfl, rfl, rfl, trivial⟩, ⟨by dsimp only; omega, by rw [hb38]; exact hlk.push hql hqo _, hst.drop⟩, by dsimp only; omega⟩
                  | exact ⟨(k + 1, pushQ ql (l.getD k cl0).who (l.getD k cl0).s, qo), ⟨rfl, trivial⟩, ⟨rfl, rfl, rfl, rfl, rfl, trivial⟩, ⟨by dsimp only; omega, fun hin => (qat_push_ne _ hin hb38).trans (hlk hin), hst.drop⟩, by dsimp only; omega⟩
                  | exact ⟨(k + 1, popQ ql (l.getD k cl0).who, qo), ⟨rfl, trivial⟩, ⟨rfl, rfl, rfl, rfl, rfl, trivial⟩, ⟨by dsimp only; omega, fun hin => (qat_pop_ne hin hb48).trans (hlk hin), hst.drop⟩, by dsimp only; omega⟩
                  | exact ⟨(k + 1, clearQ ql (l.getD k cl0).who, qo), ⟨rfl, trivial⟩, ⟨rfl, rfl, rfl, rfl, rfl, trivial⟩, ⟨by dsimp only; omega, fun hin => (qat_clear_ne hin hb61).trans (hlk hin), hst.drop⟩, by dsimp only; omega⟩
                  | exact ⟨(k + 1, ql, qo), ⟨rfl, trivial⟩, ⟨rfl, rfl, rfl, rfl, rfl, trivial⟩, ⟨by dsimp only; omega, hlk, hst.drop⟩, by dsimp only; omega⟩
                · replace hb65 := of_decide_eq_true hb65.symm
                  refine W.condT rfl rfl ?_
                  refine W.region rfl ?_
                  refine Ops.y rfl rfl rfl hst.ctx (Y.moveP rfl) ?_
                  first
                  | refine Ops.y rfl rfl rfl hst.ctx (Y.fieldAddr fa28_1 rfl) ?_
                  | refine Ops.y rfl rfl rfl hst.ctx (Y.fieldAddrP fa28_1 rfl) ?_
                  first
                  | refine Ops.y rfl rfl rfl hst.ctx (Y.load 0 Try.isAgg3 rfl rfl rfl) ?_
                  | refine Ops.y rfl rfl rfl hst.ctx (Y.load 1 Try.isAgg3 rfl rfl rfl) ?_
                  refine Ops.x rfl rfl rfl (X.call cf17 rfl ?_)
                  replace hst := hst.swap; refine use_call (Clear_any bl _ ql (l.getD k cl0).who _ _ _ _ _ hst (by decide)) rfl ?_; clear hst; rintro e w2 ⟨rfl, hst⟩; refine ⟨_, rfl, ?_⟩; replace hst := hst.swap
                  refine Ops.done rfl ?_
                  refine W.region rfl ?_
                  refine Ops.y rfl rfl rfl hst.ctx (Y.addI rfl rfl (by omega)) ?_
                  refine Ops.y rfl rfl rfl hst.ctx (Y.moveI rfl) ?_
                  refine Ops.done rfl ?_
                  first
                  | exact ⟨(k + 1, pushQ ql (l.getD k cl0).who (l.getD k cl0).s, pushQ qo (l.getD k cl0).who (l.getD k cl0).s), ⟨rfl, trivial⟩, ⟨rfl, rfl, rfl, rfl, rfl, trivial⟩, ⟨by dsimp only; omega, by rw [hb38]; exact hlk.push hql hqo _, hst.drop⟩, by dsimp only; omega⟩
                  | exact ⟨(k + 1, pushQ ql (l.getD k cl0).who (l.getD k cl0).s, qo), ⟨rfl, trivial⟩, ⟨rfl, rfl, rfl, rfl, rfl, trivial⟩, ⟨by dsimp only; omega, fun hin => (qat_push_ne _ hin hb38).trans (hlk hin), hst.drop⟩, by dsimp only; omega⟩
                  | exact ⟨(k + 1, popQ ql (l.getD k cl0).who, qo), ⟨rfl, trivial⟩, ⟨rfl, rfl, rfl, rfl, rfl, trivial⟩, ⟨by dsimp only; omega, fun hin => (qat_pop_ne hin hb48).trans (hlk hin), hst.drop⟩, by dsimp only; omega⟩
                  | exact ⟨(k + 1, clearQ ql (l.getD k cl0).who, qo), ⟨rfl, trivial⟩, ⟨rfl, rfl, rfl, rfl, rfl, trivial⟩, ⟨by dsimp only; omega, fun hin => (qat_clear_ne hin hb61).trans (hlk hin), hst.drop⟩, by dsimp only; omega⟩
                  | exact ⟨(k + 1, ql, qo), ⟨rfl, trivial⟩, ⟨rfl, rfl, rfl, rfl, rfl, trivial⟩, ⟨by dsimp only; omega, hlk, hst.drop⟩, by dsimp only; omega⟩
            · replace hb52 := of_decide_eq_true hb52.symm
              refine W.condT rfl rfl ?_
              refine W.region rfl ?_
              refine Ops.y rfl rfl rfl hst.ctx (Y.moveP rfl) ?_
              first
              | refine Ops.y rfl rfl rfl hst.ctx (Y.fieldAddr fa28_1 rfl) ?_
              | refine Ops.y rfl rfl rfl hst.ctx (Y.fieldAddrP fa28_1 rfl) ?_
              first
              | refine Ops.y rfl rfl rfl hst.ctx (Y.load 0 Try.isAgg3 rfl rfl rfl) ?_
              | refine Ops.y rfl rfl rfl hst.ctx (Y.load 1 Try.isAgg3 rfl rfl rfl) ?_
              refine Ops.x rfl rfl rfl (X.call cf14 rfl ?_)
              replace hst := hst.swap; refine use_call (Pop_any bl _ ql (l.getD k cl0).who _ _ _ _ _ hst (by decide)) rfl ?_; clear hst; rintro e w2 ⟨_, rfl, _, hst⟩; refine ⟨_, rfl, ?_⟩; replace hst := hst.swap
              refine Ops.done rfl ?_
              refine W.region rfl ?_
              refine Ops.y rfl rfl rfl hst.ctx (Y.addI rfl rfl (by omega)) ?_
              refine Ops.y rfl rfl rfl hst.ctx (Y.moveI rfl) ?_
              refine Ops.done rfl ?_
              first
              | exact ⟨(k + 1, pushQ ql (l.getD k cl0).who (l.getD k cl0).s, pushQ qo (l.getD k cl0).who (l.getD k cl0).s), ⟨rfl, trivial⟩, ⟨rfl, rfl, rfl, rfl, rfl, trivial⟩, ⟨by dsimp only; omega, by rw [hb38]; exact hlk.push hql hqo _, hst.drop⟩, by dsimp only; omega⟩
              | exact ⟨(k + 1, pushQ ql (l.getD k cl0).who (l.getD k cl0).s, qo), ⟨rfl, trivial⟩, ⟨rfl, rfl, rfl, rfl, rfl, trivial⟩, ⟨by dsimp only; omega, fun hin => (qat_push_ne _ hin hb38).trans (hlk hin), hst.drop⟩, by dsimp only; omega⟩
              | exact ⟨(k + 1, popQ ql (l.getD k cl0).who, qo), ⟨rfl, trivial⟩, ⟨rfl, rfl, rfl, rfl, rfl, trivial⟩, ⟨by dsimp only; omega, fun hin => (qat_pop_ne hin hb48).trans (hlk hin), hst.drop⟩, by dsimp only; omega⟩
              | exact ⟨(k + 1, clearQ ql (l.getD k cl0).who, qo), ⟨rfl, trivial⟩, ⟨rfl, rfl, rfl, rfl, rfl, trivial⟩, ⟨by dsimp only; omega, fun hin => (qat_clear_ne hin hb61).trans (hlk hin), hst.drop⟩, by dsimp only; omega⟩
              | exact ⟨(k + 1, ql, qo), ⟨rfl, trivial⟩, ⟨rfl, rfl, rfl, rfl, rfl, trivial⟩, ⟨by dsimp only; omega, hlk, hst.drop⟩, by dsimp only; omega⟩
        · replace hb28 := of_decide_eq_true hb28.symm
          refine W.condT rfl rfl ?_
          refine W.seq rfl ?_
          refine W.region rfl ?_
          refine Ops.y rfl rfl rfl hst.ctx (Y.moveP rfl) ?_
          first
          | refine Ops.y rfl rfl rfl hst.ctx (Y.fieldAddr fa28_1 rfl) ?_
          | refine Ops.y rfl rfl rfl hst.ctx (Y.fieldAddrP fa28_1 rfl) ?_
          first
          | refine Ops.y rfl rfl rfl hst.ctx (Y.load 0 Try.isAgg3 rfl rfl rfl) ?_
          | refine Ops.y rfl rfl rfl hst.ctx (Y.load 1 Try.isAgg3 rfl rfl rfl) ?_
          first
          | refine Ops.y rfl rfl rfl hst.ctx (Y.fieldAddr fa28_3 rfl) ?_
          | refine Ops.y rfl rfl rfl hst.ctx (Y.fieldAddrP fa28_3 rfl) ?_
          first
          | refine Ops.y rfl rfl rfl hst.ctx (Y.load 0 Try.isAgg9 rfl rfl rfl) ?_
          | refine Ops.y rfl rfl rfl hst.ctx (Y.load 1 Try.isAgg9 rfl rfl rfl) ?_
          refine Ops.x rfl rfl rfl (X.call cf10 rfl ?_)
          replace hst := hst.swap; refine use_call (Push_any bl _ ql (l.getD k cl0).who (l.getD k cl0).s _ _ _ _ _ hst (by decide)) rfl ?_; clear hst; rintro e w2 ⟨rfl, hst⟩; refine ⟨_, rfl, ?_⟩; replace hst := hst.swap
          refine Ops.done rfl ?_
          refine W.seq rfl ?_
          refine W.region rfl ?_
          first
          | refine Ops.y rfl rfl rfl hst.ctx (Y.fieldAddr fa28_1 rfl) ?_
          | refine Ops.y rfl rfl rfl hst.ctx (Y.fieldAddrP fa28_1 rfl) ?_
          first
          | refine Ops.y rfl rfl rfl hst.ctx (Y.load 0 Try.isAgg3 rfl rfl rfl) ?_
          | refine Ops.y rfl rfl rfl hst.ctx (Y.load 1 Try.isAgg3 rfl rfl rfl) ?_
          refine Ops.y rfl rfl rfl hst.ctx (Y.moveI rfl) ?_
          refine Ops.yb rfl rfl rfl hst.ctx (Y.eql rfl rfl) (fun b38 hb38 => ?_)
          refine Ops.done rfl ?_
          cases b38
          · replace hb38 := of_decide_eq_false hb38.symm
            refine W.condF rfl rfl ?_
            refine W.skip rfl ?_
            refine W.region rfl ?_
            refine Ops.y rfl rfl rfl hst.ctx (Y.addI rfl rfl (by omega)) ?_
            refine Ops.y rfl rfl rfl hst.ctx (Y.moveI rfl) ?_
            refine Ops.done rfl ?_
            first
            | exact ⟨(k + 1, pushQ ql (l.getD k cl0).who (l.getD k cl0).s, pushQ qo (l.getD k cl0).who (l.getD k cl0).s), ⟨rfl, trivial⟩, ⟨rfl, rfl, rfl, rfl, rfl, trivial⟩, ⟨by dsimp only; omega, by rw [hb38]; exact hlk.push hql hqo _, hst.drop⟩, by dsimp only; omega⟩
            | exact ⟨(k + 1, pushQ ql (l.getD k cl0).who (l.getD k cl0).s, qo), ⟨rfl, trivial⟩, ⟨rfl, rfl, rfl, rfl, rfl, trivial⟩, ⟨by dsimp only; omega, fun hin => (qat_push_ne _ hin hb38).trans (hlk hin), hst.drop⟩, by dsimp only; omega⟩
            | exact ⟨(k + 1, popQ ql (l.getD k cl0).who, qo), ⟨rfl, trivial⟩, ⟨rfl, rfl, rfl, rfl, rfl, trivial⟩, ⟨by dsimp only; omega, fun hin => (qat_pop_ne hin hb48).trans (hlk hin), hst.drop⟩, by dsimp only; omega⟩
            | exact ⟨(k + 1, clearQ ql (l.getD k cl0).who, qo), ⟨rfl, trivial⟩, ⟨rfl, rfl, rfl, rfl, rfl, trivial⟩, ⟨by dsimp only; omega, fun hin => (qat_clear_ne hin hb61).trans (hlk hin), hst.drop⟩, by dsimp only; omega⟩
            | exact ⟨(k + 1, ql, qo), ⟨rfl, trivial⟩, ⟨rfl, rfl, rfl, rfl, rfl, trivial⟩, ⟨by dsimp only; omega, hlk, hst.drop⟩, by dsimp only; omega⟩
          · replace hb38 := of_decide_eq_true hb38.symm
            refine W.condT rfl rfl ?_
            refine W.region rfl ?_
            refine Ops.y rfl rfl rfl hst.ctx (Y.moveP rfl) ?_
            first
            | refine Ops.y rfl rfl rfl hst.ctx (Y.fieldAddr fa28_1 rfl) ?_
            | refine Ops.y rfl rfl rfl hst.ctx (Y.fieldAddrP fa28_1 rfl) ?_
            first
            | refine Ops.y rfl rfl rfl hst.ctx (Y.load 0 Try.isAgg3 rfl rfl rfl) ?_
            | refine Ops.y rfl rfl rfl hst.ctx (Y.load 1 Try.isAgg3 rfl rfl rfl) ?_
            first
            | refine Ops.y rfl rfl rfl hst.ctx (Y.fieldAddr fa28_3 rfl) ?_
            | refine Ops.y rfl rfl rfl hst.ctx (Y.fieldAddrP fa28_3 rfl) ?_
            first
            | refine Ops.y rfl rfl rfl hst.ctx (Y.load 0 Try.isAgg9 rfl rfl rfl) ?_
            | refine Ops.y rfl rfl rfl hst.ctx (Y.load 1 Try.isAgg9 rfl rfl rfl) ?_
            refine Ops.x rfl rfl rfl (X.call cf10 rfl ?_)
            replace hst := hst.up3; refine use_call (Push_any bo _ qo (l.getD k cl0).who (l.getD k cl0).s _ _ _ _ _ hst (by decide)) rfl ?_; clear hst; rintro e w2 ⟨rfl, hst⟩; refine ⟨_, rfl, ?_⟩; replace hst := hst.up3.up3
            refine Ops.done rfl ?_
            refine W.region rfl ?_
            refine Ops.y rfl rfl rfl hst.ctx (Y.addI rfl rfl (by omega)) ?_
            refine Ops.y rfl rfl rfl hst.ctx (Y.moveI rfl) ?_
            refine Ops.done rfl ?_
            first
            | exact ⟨(k + 1, pushQ ql (l.getD k cl0).who (l.getD k cl0).s, pushQ qo (l.getD k cl0).who (l.getD k cl0).s), ⟨rfl, trivial⟩, ⟨rfl, rfl, rfl, rfl, rfl, trivial⟩, ⟨by dsimp only; omega, by rw [hb38]; exact hlk.push hql hqo _, hst.drop⟩, by dsimp only; omega⟩
            | exact ⟨(k + 1, pushQ ql (l.getD k cl0).who (l.getD k cl0).s, qo), ⟨rfl, trivial⟩, ⟨rfl, rfl, rfl, rfl, rfl, trivial⟩, ⟨by dsimp only; omega, fun hin => (qat_push_ne _ hin hb38).trans (hlk hin), hst.drop⟩, by dsimp only; omega⟩
            | exact ⟨(k + 1, popQ ql (l.getD k cl0).who, qo), ⟨rfl, trivial⟩, ⟨rfl, rfl, rfl, rfl, rfl, trivial⟩, ⟨by dsimp only; omega, fun hin => (qat_pop_ne hin hb48).trans (hlk hin), hst.drop⟩, by dsimp only; omega⟩
            | exact ⟨(k + 1, clearQ ql (l.getD k cl0).who, qo), ⟨rfl, trivial⟩, ⟨rfl, rfl, rfl, rfl, rfl, trivial⟩, ⟨by dsimp only; omega, fun hin => (qat_clear_ne hin hb61).trans (hlk hin), hst.drop⟩, by dsimp only; omega⟩
            | exact ⟨(k + 1, ql, qo), ⟨rfl, trivial⟩, ⟨rfl, rfl, rfl, rfl, rfl, trivial⟩, ⟨by dsimp only; omega, hlk, hst.drop⟩, by dsimp only; omega⟩
  · skip
    refine W.condT rfl rfl ?_
    refine W.seq rfl ?_
    refine W.region rfl ?_
    refine Ops.y rfl rfl rfl hst.ctx (Y.assignB rfl) ?_
    refine Ops.done rfl ?_
    refine W.ret rfl ?_
    refine ⟨_, Rslt.one Try.results6 rfl, ?_⟩
    exact ⟨rfl, by first | exact hst.below | exact hst.drop.below⟩
end Go.Proofs.Ytcafmbbimoddjaa.LN
