/- The walks of the lanes: Push, Pop, Len, Clear, Tick. -/
import Derived.Test.YtcafmbbimoddjaaLQ
set_option linter.unusedVariables false
set_option linter.unusedSimpArgs false
namespace Go.Proofs.Ytcafmbbimoddjaa.LN
open Go.RowKit Go.Proofs.Ytcafmbbimoddjaa.K
theorem fa38_1 (a : Addr) (w : World) : (Instr.fieldAt 38 (.pointer (some a)) 1).run Try.prog w = .ok (.pointer (some (a.add 1))) w := by
  simp [Instr.fieldAt, Instr.sureAddr, go_sem]
theorem cf20 : ∀ args w, (callFunc 20 args).run Try.prog w = .ok (.enter 20 args) w := fun _ _ => by simp [go_sem]
theorem cf21 : ∀ args w, (callFunc 21 args).run Try.prog w = .ok (.enter 21 args) w := fun _ _ => by simp [go_sem]

theorem row_in (b : Nat) (who : Int) (w : World) (h : inR who) : Calls Try.prog 20 #[.pointer (some ⟨b, 0, none⟩), .int .i64 who] w fun e w' => e = .returned (.pointer (some ⟨b, who.toNat * 130, none⟩)) ∧ w = w' :=
  (row_any b who w).mono fun e w' ⟨h1, h2⟩ => ⟨by rw [h1, if_pos (show 0 ≤ who ∧ who < 48 from h)], h2⟩
theorem row_out (b : Nat) (who : Int) (w : World) (h : ¬ inR who) : Calls Try.prog 20 #[.pointer (some ⟨b, 0, none⟩), .int .i64 who] w fun e w' => e = .returned (.pointer none) ∧ w = w' :=
  (row_any b who w).mono fun e w' ⟨h1, h2⟩ => ⟨by rw [h1, if_neg (show ¬ (0 ≤ who ∧ who < 48) from h)], h2⟩
theorem ret_int {i j : Int} (h : i = j) : Ending.returned (.int .i64 i) = .returned (.int .i64 j) := by rw [h]

theorem Push_in (b : Nat) (N : Int) (qs : Qs) (who : Int) (s : ByteArray) (w0 w : World) (F0 : List Nat) (L G : List Res) (hst : St w0 F0 w (QR b N qs :: L) G) (hN : 0 ≤ N) (hin : inR who) :
    Calls Try.prog 10 #[.pointer (some ⟨b, 0, none⟩), .int .i64 who, .string s] w fun e w' => e = .returned (.int .i64 (pushE qs who s)) ∧ St w0 F0 w' (QR b N (pushQ qs who s) :: L) G := by
  obtain ⟨rows, hw, rfl, hsu⟩ := hst.openQ
  clear hst
  have hst := hsu
  clear hsu
  have hm := hw.get hin.lt
  have hr := hw.wf _ hm
  have hpre := hw.pre hin.lt
  rw [LR_at hw hin.lt] at hst
  refine W.func Try.func10 rfl Try.ntmps10 rfl ?_
  refine W.seq rfl ?_
  refine W.region rfl ?_
  refine Ops.y rfl rfl rfl hst.ctx (Y.assignI rfl) ?_
  refine Ops.done rfl ?_
  refine W.seq rfl ?_
  refine W.region rfl ?_
  refine Ops.y rfl rfl rfl hst.ctx (Y.moveP rfl) ?_
  refine Ops.y rfl rfl rfl hst.ctx (Y.moveI rfl) ?_
  refine Ops.x rfl rfl rfl (X.call cf20 rfl ?_)
  refine use_call (row_in b who _ hin) rfl ?_; rintro e w1 ⟨rfl, rfl⟩; refine ⟨_, rfl, ?_⟩
  refine Ops.y rfl rfl rfl hst.ctx (Y.assignP rfl) ?_
  refine Ops.done rfl ?_
  refine W.seq rfl ?_
  refine W.block rfl ?_
  refine W.seq rfl ?_
  refine W.region rfl ?_
  refine Ops.y rfl rfl rfl hst.ctx (Y.moveP rfl) ?_
  refine Ops.y rfl rfl rfl hst.ctx (Y.isNil Try.underlying25 rfl rfl) ?_
  refine Ops.y rfl rfl rfl hst.ctx (Y.assignB rfl) ?_
  refine Ops.done rfl ?_
  refine W.condF rfl rfl ?_
  refine W.seq rfl ?_
  refine W.region rfl ?_
  refine Ops.y rfl rfl rfl hst.ctx (Y.moveP rfl) ?_
  refine Ops.y rfl rfl rfl hst.ctx (Y.isNil Try.underlying54 rfl rfl) ?_
  refine Ops.y rfl rfl rfl hst.ctx (Y.assignB rfl) ?_
  refine Ops.done rfl ?_
  refine W.condF rfl rfl ?_
  refine W.seq rfl ?_
  refine W.region rfl ?_
  refine Ops.y rfl rfl rfl hst.ctx (Y.moveT rfl) ?_
  refine Ops.y rfl rfl rfl hst.ctx (Y.lenT Try.underlying9 rfl) ?_
  refine Ops.yb rfl rfl rfl hst.ctx (Y.gtr rfl rfl) (fun b20 hb20 => ?_)
  refine Ops.y rfl rfl rfl hst.ctx (Y.assignB rfl) ?_
  refine Ops.done rfl ?_
  cases b20
  · replace hb20 := of_decide_eq_false hb20.symm
    refine W.condF rfl rfl ?_
    refine W.seq rfl ?_
    refine W.region rfl ?_
    refine Ops.y rfl rfl rfl hst.ctx (Y.moveP rfl) ?_
    refine Ops.y rfl rfl rfl hst.ctx (Y.moveT rfl) ?_
    refine Ops.x rfl rfl rfl (X.call cf21 rfl ?_)
    refine use_call (push_any b _ _ _ _ s _ _ _ _ _ hst hpre hr) rfl ?_; rintro e w2 ⟨b24, rfl, hb24, hst⟩; refine ⟨_, rfl, ?_⟩
    cases b24
    · replace hb24 := of_decide_eq_false hb24.symm
      refine Ops.y rfl rfl rfl hst.ctx (Y.not rfl) ?_
      refine Ops.y rfl rfl rfl hst.ctx (Y.assignB rfl) ?_
      refine Ops.done rfl ?_
      refine W.condT rfl rfl ?_
      refine W.seq rfl ?_
      refine W.region rfl ?_
      refine Ops.y rfl rfl rfl hst.ctx (Y.assignI rfl) ?_
      refine Ops.done rfl ?_
      refine W.ret rfl ?_
      refine ⟨_, Rslt.one Try.results10 rfl, ?_⟩
      first
      | exact ⟨ret_int (by rw [pushE_eq hw hin (by omega), if_pos (by omega)]), push_done hw hN hin (by omega) hst⟩
      | exact ⟨ret_int (by rw [pushE_eq hw hin (by omega), if_neg (by omega)]), push_done hw hN hin (by omega) hst⟩
      | exact ⟨ret_int (by unfold pushE; rw [if_pos hin, if_neg (by omega)]), by unfold pushQ; rw [if_neg (fun h => by omega)]; rw [← LR_at hw hin.lt] at hst; exact St.shutQ' hst hw⟩
    · replace hb24 := of_decide_eq_true hb24.symm
      refine Ops.y rfl rfl rfl hst.ctx (Y.not rfl) ?_
      refine Ops.y rfl rfl rfl hst.ctx (Y.assignB rfl) ?_
      refine Ops.done rfl ?_
      refine W.condF rfl rfl ?_
      refine W.skip rfl ?_
      refine W.seq rfl ?_
      refine W.region rfl ?_
      refine Ops.y rfl rfl rfl hst.ctx (Y.assignI rfl) ?_
      refine Ops.done rfl ?_
      refine W.ret rfl ?_
      refine ⟨_, Rslt.one Try.results10 rfl, ?_⟩
      first
      | exact ⟨ret_int (by rw [pushE_eq hw hin (by omega), if_pos (by omega)]), push_done hw hN hin (by omega) hst⟩
      | exact ⟨ret_int (by rw [pushE_eq hw hin (by omega), if_neg (by omega)]), push_done hw hN hin (by omega) hst⟩
      | exact ⟨ret_int (by unfold pushE; rw [if_pos hin, if_neg (by omega)]), by unfold pushQ; rw [if_neg (fun h => by omega)]; rw [← LR_at hw hin.lt] at hst; exact St.shutQ' hst hw⟩
  · replace hb20 := of_decide_eq_true hb20.symm
    refine W.condT rfl rfl ?_
    refine W.seq rfl ?_
    refine W.region rfl ?_
    refine Ops.y rfl rfl rfl hst.ctx (Y.assignI rfl) ?_
    refine Ops.done rfl ?_
    refine W.ret rfl ?_
    refine ⟨_, Rslt.one Try.results10 rfl, ?_⟩
    first
    | exact ⟨ret_int (by rw [pushE_eq hw hin (by omega), if_pos (by omega)]), push_done hw hN hin (by omega) hst⟩
    | exact ⟨ret_int (by rw [pushE_eq hw hin (by omega), if_neg (by omega)]), push_done hw hN hin (by omega) hst⟩
    | exact ⟨ret_int (by unfold pushE; rw [if_pos hin, if_neg (by omega)]), by unfold pushQ; rw [if_neg (fun h => by omega)]; rw [← LR_at hw hin.lt] at hst; exact St.shutQ' hst hw⟩

theorem Push_out (b : Nat) (N : Int) (qs : Qs) (who : Int) (s : ByteArray) (w0 w : World) (F0 : List Nat) (L G : List Res) (hst : St w0 F0 w (QR b N qs :: L) G) (hN : 0 ≤ N) (hin : ¬ inR who) :
    Calls Try.prog 10 #[.pointer (some ⟨b, 0, none⟩), .int .i64 who, .string s] w fun e w' => e = .returned (.int .i64 (pushE qs who s)) ∧ St w0 F0 w' (QR b N (pushQ qs who s) :: L) G := by
  refine W.func Try.func10 rfl Try.ntmps10 rfl ?_
  refine W.seq rfl ?_
  refine W.region rfl ?_
  refine Ops.y rfl rfl rfl hst.ctx (Y.assignI rfl) ?_
  refine Ops.done rfl ?_
  refine W.seq rfl ?_
  refine W.region rfl ?_
  refine Ops.y rfl rfl rfl hst.ctx (Y.moveP rfl) ?_
  refine Ops.y rfl rfl rfl hst.ctx (Y.moveI rfl) ?_
  refine Ops.x rfl rfl rfl (X.call cf20 rfl ?_)
  refine use_call (row_out b who _ hin) rfl ?_; rintro e w1 ⟨rfl, rfl⟩; refine ⟨_, rfl, ?_⟩
  refine Ops.y rfl rfl rfl hst.ctx (Y.assignP rfl) ?_
  refine Ops.done rfl ?_
  refine W.seq rfl ?_
  refine W.block rfl ?_
  refine W.seq rfl ?_
  refine W.region rfl ?_
  refine Ops.y rfl rfl rfl hst.ctx (Y.moveP rfl) ?_
  refine Ops.y rfl rfl rfl hst.ctx (Y.isNil Try.underlying25 rfl rfl) ?_
  refine Ops.y rfl rfl rfl hst.ctx (Y.assignB rfl) ?_
  refine Ops.done rfl ?_
  refine W.condF rfl rfl ?_
  refine W.seq rfl ?_
  refine W.region rfl ?_
  refine Ops.y rfl rfl rfl hst.ctx (Y.moveP rfl) ?_
  refine Ops.y rfl rfl rfl hst.ctx (Y.isNil Try.underlying54 rfl rfl) ?_
  refine Ops.y rfl rfl rfl hst.ctx (Y.assignB rfl) ?_
  refine Ops.done rfl ?_
  refine W.condT rfl rfl ?_
  refine W.seq rfl ?_
  refine W.region rfl ?_
  refine Ops.y rfl rfl rfl hst.ctx (Y.assignI rfl) ?_
  refine Ops.done rfl ?_
  refine W.ret rfl ?_
  refine ⟨_, Rslt.one Try.results10 rfl, ?_⟩
  exact ⟨ret_int (by unfold pushE; rw [if_neg hin]), by unfold pushQ; rw [if_neg (fun h => hin h.1)]; exact hst⟩

theorem Push_any (b : Nat) (N : Int) (qs : Qs) (who : Int) (s : ByteArray) (w0 w : World) (F0 : List Nat) (L G : List Res) (hst : St w0 F0 w (QR b N qs :: L) G) (hN : 0 ≤ N) :
    Calls Try.prog 10 #[.pointer (some ⟨b, 0, none⟩), .int .i64 who, .string s] w fun e w' => e = .returned (.int .i64 (pushE qs who s)) ∧ St w0 F0 w' (QR b N (pushQ qs who s) :: L) G := by
  by_cases h : inR who
  · exact Push_in b N qs who s w0 w F0 L G hst hN h
  · exact Push_out b N qs who s w0 w F0 L G hst hN h
theorem Push_nil (who : Int) (s : ByteArray) (w : World) : Calls Try.prog 10 #[.pointer none, .int .i64 who, .string s] w fun e w' => e = .returned (.int .i64 2) ∧ w = w' := by
  refine W.func Try.func10 rfl Try.ntmps10 rfl ?_
  refine W.seq rfl ?_
  refine W.region rfl ?_
  refine Ops.y rfl rfl rfl (any _) (Y.assignI rfl) ?_
  refine Ops.done rfl ?_
  refine W.seq rfl ?_
  refine W.region rfl ?_
  refine Ops.y rfl rfl rfl (any _) (Y.moveP rfl) ?_
  refine Ops.y rfl rfl rfl (any _) (Y.moveI rfl) ?_
  refine Ops.x rfl rfl rfl (X.call cf20 rfl ?_)
  refine use_call (row_nil who _) rfl ?_; rintro e w1 ⟨rfl, rfl⟩; refine ⟨_, rfl, ?_⟩
  refine Ops.y rfl rfl rfl (any _) (Y.assignP rfl) ?_
  refine Ops.done rfl ?_
  refine W.seq rfl ?_
  refine W.block rfl ?_
  refine W.seq rfl ?_
  refine W.region rfl ?_
  refine Ops.y rfl rfl rfl (any _) (Y.moveP rfl) ?_
  refine Ops.y rfl rfl rfl (any _) (Y.isNil Try.underlying25 rfl rfl) ?_
  refine Ops.y rfl rfl rfl (any _) (Y.assignB rfl) ?_
  refine Ops.done rfl ?_
  refine W.condT rfl rfl ?_
  refine W.seq rfl ?_
  refine W.region rfl ?_
  refine Ops.y rfl rfl rfl (any _) (Y.assignI rfl) ?_
  refine Ops.done rfl ?_
  refine W.ret rfl ?_
  refine ⟨_, Rslt.one Try.results10 rfl, ?_⟩
  exact ⟨rfl, rfl⟩

theorem ret_pop {x y : It} {c d : Bool} (h : x = y) (h2 : c = d) : Ending.returned (.tuple #[.agg #[.string x.1, .int .i64 x.2], .bool c]) = .returned (.tuple #[.agg #[.string y.1, .int .i64 y.2], .bool d]) := by rw [h, h2]
theorem Pop_in (b : Nat) (N : Int) (qs : Qs) (who : Int) (w0 w : World) (F0 : List Nat) (L G : List Res) (hst : St w0 F0 w (QR b N qs :: L) G) (hN : 0 ≤ N) (hin : inR who) :
    Calls Try.prog 14 #[.pointer (some ⟨b, 0, none⟩), .int .i64 who] w fun e w' => ∃ c, e = .returned (.tuple #[.agg #[.string (popV qs who).1, .int .i64 (popV qs who).2], .bool c]) ∧ c = popB qs who ∧ St w0 F0 w' (QR b N (popQ qs who) :: L) G := by
  obtain ⟨rows, hw, rfl, hsu⟩ := hst.openQ
  clear hst
  have hst := hsu
  clear hsu
  have hm := hw.get hin.lt
  have hr := hw.wf _ hm
  have hpre := hw.pre hin.lt
  rw [LR_at hw hin.lt] at hst
  refine W.func Try.func14 rfl Try.ntmps14 rfl ?_
  refine W.seq rfl ?_
  refine W.region rfl ?_
  refine Ops.x rfl rfl rfl (X.allocA hst Try.zeroValue38 ?_)
  clear hst; intro p4 w4 hst
  refine Ops.y rfl rfl rfl hst.ctx (Y.assignB rfl) ?_
  refine Ops.done rfl ?_
  refine W.seq rfl ?_
  refine W.region rfl ?_
  refine Ops.y rfl rfl rfl hst.ctx (Y.moveP rfl) ?_
  refine Ops.y rfl rfl rfl hst.ctx (Y.moveI rfl) ?_
  refine Ops.x rfl rfl rfl (X.call cf20 rfl ?_)
  refine use_call (row_in b who _ hin) rfl ?_; rintro e w1 ⟨rfl, rfl⟩; refine ⟨_, rfl, ?_⟩
  refine Ops.y rfl rfl rfl hst.ctx (Y.assignP rfl) ?_
  refine Ops.done rfl ?_
  refine W.seq rfl ?_
  refine W.seq rfl ?_
  refine W.region rfl ?_
  refine Ops.y rfl rfl rfl hst.ctx (Y.moveP rfl) ?_
  refine Ops.y rfl rfl rfl hst.ctx (Y.isNil Try.underlying54 rfl rfl) ?_
  refine Ops.y rfl rfl rfl hst.ctx (Y.moveB rfl) ?_
  refine Ops.y rfl rfl rfl hst.ctx (Y.moveP rfl) ?_
  refine Ops.y rfl rfl rfl hst.ctx (Y.nilCheck rfl) ?_
  first
  | refine Ops.y rfl rfl rfl hst.ctx (Y.fieldAddr fa50_2 rfl) ?_
  | refine Ops.y rfl rfl rfl hst.ctx (Y.fieldAddrP fa50_2 rfl) ?_
  first
  | refine Ops.y rfl rfl rfl hst.ctx (Y.load 0 Try.isAgg3 rfl rfl rfl) ?_
  | refine Ops.y rfl rfl rfl hst.ctx (Y.load 1 Try.isAgg3 rfl rfl (at_count hpre hr)) ?_
  refine Ops.yb rfl rfl rfl hst.ctx (Y.eql rfl rfl) (fun b17 hb17 => ?_)
  refine Ops.y rfl rfl rfl hst.ctx (Y.pick (.bool _) rfl rfl) ?_
  refine Ops.done rfl ?_
  cases b17
  · replace hb17 := of_decide_eq_false hb17.symm
    refine W.condF rfl rfl ?_
    refine W.skip rfl ?_
    refine W.seq rfl ?_
    refine W.region rfl ?_
    refine Ops.y rfl rfl rfl hst.ctx (Y.moveP rfl) ?_
    refine Ops.x rfl rfl rfl (X.call cf22 rfl ?_)
    refine use_call (pop_any b _ _ _ _ _ _ _ _ _ hst.swap hpre hr (by omega)) rfl ?_; clear hst; rintro e w2 ⟨rfl, hst⟩; refine ⟨_, rfl, ?_⟩; replace hst := hst.swap
    refine Ops.x rfl rfl rfl (X.storeS hst 0 Try.sizeOf38 rfl rfl rfl rfl rfl (Nat.le_of_ble_eq_true rfl) rfl rfl ?_)
    clear hst; intro w4_2 hst
    try simp only [List.set_cons_zero, List.set_cons_succ, Nat.zero_add, Nat.reduceAdd, splice, List.take, List.drop, List.append_eq, List.nil_append, List.cons_append, List.length_cons, List.length_nil] at hst
    refine Ops.y rfl rfl rfl hst.ctx (Y.assignB rfl) ?_
    refine Ops.done rfl ?_
    refine W.ret rfl ?_
    refine ⟨_, Rslt.cellTmp Try.results14 rfl (run_load_agg Try.isAgg38 Try.sizeOf38 rfl (fun j v h => by rw [add_lit', hst.cell (.inl (List.Mem.head _)) (0 + j), Nat.zero_add]; exact h)) rfl, ?_⟩
    refine ⟨_, ret_pop (popV_eq hw hin (by omega)).symm rfl, ?_, pop_done hw hN hin (by omega) hst.drop⟩
    unfold popB; rw [qat_map hw hin]; exact (decide_eq_true ⟨hin, items_ne (by omega)⟩).symm
  · replace hb17 := of_decide_eq_true hb17.symm
    refine W.condT rfl rfl ?_
    refine W.seq rfl ?_
    refine W.region rfl ?_
    refine Ops.y rfl rfl rfl hst.ctx (bd38_ rfl) ?_
    refine Ops.x rfl rfl rfl (X.storeS hst 0 Try.sizeOf38 rfl rfl rfl rfl rfl (Nat.le_of_ble_eq_true rfl) rfl rfl ?_)
    clear hst; intro w3_1 hst
    try simp only [List.set_cons_zero, List.set_cons_succ, Nat.zero_add, Nat.reduceAdd, splice, List.take, List.drop, List.append_eq, List.nil_append, List.cons_append, List.length_cons, List.length_nil] at hst
    refine Ops.y rfl rfl rfl hst.ctx (Y.assignB rfl) ?_
    refine Ops.done rfl ?_
    refine W.ret rfl ?_
    refine ⟨_, Rslt.cellTmp Try.results14 rfl (run_load_agg Try.isAgg38 Try.sizeOf38 rfl (fun j v h => by rw [add_lit', hst.cell (.inl (List.Mem.head _)) (0 + j), Nat.zero_add]; exact h)) rfl, ?_⟩
    have hn := items_nil (r := rows.getD who.toNat zr) (by omega)
    have hst := hst.drop
    rw [← LR_at hw hin.lt] at hst
    refine ⟨_, ret_pop (x := e0) (by unfold popV; rw [if_pos hin, qat_map hw hin, hn]; rfl) rfl, ?_, ?_⟩
    · unfold popB; rw [qat_map hw hin]; exact (decide_eq_false (fun h => h.2 hn)).symm
    · have := St.shutQ' hst hw
      unfold popQ
      rw [if_pos hin, qat_map hw hin, hn, List.tail_nil, set_self (by rw [map_items_getD hw hin.lt]; exact hn)]
      exact this

theorem Pop_out (b : Nat) (N : Int) (qs : Qs) (who : Int) (w0 w : World) (F0 : List Nat) (L G : List Res) (hst : St w0 F0 w (QR b N qs :: L) G) (hN : 0 ≤ N) (hin : ¬ inR who) :
    Calls Try.prog 14 #[.pointer (some ⟨b, 0, none⟩), .int .i64 who] w fun e w' => ∃ c, e = .returned (.tuple #[.agg #[.string (popV qs who).1, .int .i64 (popV qs who).2], .bool c]) ∧ c = popB qs who ∧ St w0 F0 w' (QR b N (popQ qs who) :: L) G := by
  refine W.func Try.func14 rfl Try.ntmps14 rfl ?_
  refine W.seq rfl ?_
  refine W.region rfl ?_
  refine Ops.x rfl rfl rfl (X.allocA hst Try.zeroValue38 ?_)
  clear hst; intro p4 w4 hst
  refine Ops.y rfl rfl rfl hst.ctx (Y.assignB rfl) ?_
  refine Ops.done rfl ?_
  refine W.seq rfl ?_
  refine W.region rfl ?_
  refine Ops.y rfl rfl rfl hst.ctx (Y.moveP rfl) ?_
  refine Ops.y rfl rfl rfl hst.ctx (Y.moveI rfl) ?_
  refine Ops.x rfl rfl rfl (X.call cf20 rfl ?_)
  refine use_call (row_out b who _ hin) rfl ?_; rintro e w1 ⟨rfl, rfl⟩; refine ⟨_, rfl, ?_⟩
  refine Ops.y rfl rfl rfl hst.ctx (Y.assignP rfl) ?_
  refine Ops.done rfl ?_
  refine W.seq rfl ?_
  refine W.seq rfl ?_
  refine W.region rfl ?_
  refine Ops.y rfl rfl rfl hst.ctx (Y.moveP rfl) ?_
  refine Ops.y rfl rfl rfl hst.ctx (Y.isNil Try.underlying54 rfl rfl) ?_
  refine Ops.y rfl rfl rfl hst.ctx (Y.moveB rfl) ?_
  refine Ops.no rfl rfl rfl ?_
  refine Ops.no rfl rfl rfl ?_
  refine Ops.no rfl rfl rfl ?_
  refine Ops.no rfl rfl rfl ?_
  refine Ops.no rfl rfl rfl ?_
  refine Ops.y rfl rfl rfl hst.ctx (Y.pick (.bool _) rfl rfl) ?_
  refine Ops.done rfl ?_
  refine W.condT rfl rfl ?_
  refine W.seq rfl ?_
  refine W.region rfl ?_
  refine Ops.y rfl rfl rfl hst.ctx (bd38_ rfl) ?_
  refine Ops.x rfl rfl rfl (X.storeS hst 0 Try.sizeOf38 rfl rfl rfl rfl rfl (Nat.le_of_ble_eq_true rfl) rfl rfl ?_)
  clear hst; intro w3_1 hst
  try simp only [List.set_cons_zero, List.set_cons_succ, Nat.zero_add, Nat.reduceAdd, splice, List.take, List.drop, List.append_eq, List.nil_append, List.cons_append, List.length_cons, List.length_nil] at hst
  refine Ops.y rfl rfl rfl hst.ctx (Y.assignB rfl) ?_
  refine Ops.done rfl ?_
  refine W.ret rfl ?_
  refine ⟨_, Rslt.cellTmp Try.results14 rfl (run_load_agg Try.isAgg38 Try.sizeOf38 rfl (fun j v h => by rw [add_lit', hst.cell (.inl (List.Mem.head _)) (0 + j), Nat.zero_add]; exact h)) rfl, ?_⟩
  refine ⟨_, ret_pop (x := e0) (by unfold popV; rw [if_neg hin]) rfl, ?_, ?_⟩
  · unfold popB; exact (decide_eq_false (fun h => hin h.1)).symm
  · unfold popQ; rw [if_neg hin]; exact hst.drop

theorem Pop_nil (who : Int) (w0 w : World) (F0 : List Nat) (L G : List Res) (hst : St w0 F0 w L G) : Calls Try.prog 14 #[.pointer none, .int .i64 who] w fun e w' => e = .returned (.tuple #[.agg #[.string ⟨#[]⟩, .int .i64 0], .bool false]) ∧ St w0 F0 w' L G := by
  refine W.func Try.func14 rfl Try.ntmps14 rfl ?_
  refine W.seq rfl ?_
  refine W.region rfl ?_
  refine Ops.x rfl rfl rfl (X.allocA hst Try.zeroValue38 ?_)
  clear hst; intro p4 w4 hst
  refine Ops.y rfl rfl rfl hst.ctx (Y.assignB rfl) ?_
  refine Ops.done rfl ?_
  refine W.seq rfl ?_
  refine W.region rfl ?_
  refine Ops.y rfl rfl rfl hst.ctx (Y.moveP rfl) ?_
  refine Ops.y rfl rfl rfl hst.ctx (Y.moveI rfl) ?_
  refine Ops.x rfl rfl rfl (X.call cf20 rfl ?_)
  refine use_call (row_nil who _) rfl ?_; rintro e w1 ⟨rfl, rfl⟩; refine ⟨_, rfl, ?_⟩
  refine Ops.y rfl rfl rfl hst.ctx (Y.assignP rfl) ?_
  refine Ops.done rfl ?_
  refine W.seq rfl ?_
  refine W.seq rfl ?_
  refine W.region rfl ?_
  refine Ops.y rfl rfl rfl hst.ctx (Y.moveP rfl) ?_
  refine Ops.y rfl rfl rfl hst.ctx (Y.isNil Try.underlying54 rfl rfl) ?_
  refine Ops.y rfl rfl rfl hst.ctx (Y.moveB rfl) ?_
  refine Ops.no rfl rfl rfl ?_
  refine Ops.no rfl rfl rfl ?_
  refine Ops.no rfl rfl rfl ?_
  refine Ops.no rfl rfl rfl ?_
  refine Ops.no rfl rfl rfl ?_
  refine Ops.y rfl rfl rfl hst.ctx (Y.pick (.bool _) rfl rfl) ?_
  refine Ops.done rfl ?_
  refine W.condT rfl rfl ?_
  refine W.seq rfl ?_
  refine W.region rfl ?_
  refine Ops.y rfl rfl rfl hst.ctx (bd38_ rfl) ?_
  refine Ops.x rfl rfl rfl (X.storeS hst 0 Try.sizeOf38 rfl rfl rfl rfl rfl (Nat.le_of_ble_eq_true rfl) rfl rfl ?_)
  clear hst; intro w3_1 hst
  try simp only [List.set_cons_zero, List.set_cons_succ, Nat.zero_add, Nat.reduceAdd, splice, List.take, List.drop, List.append_eq, List.nil_append, List.cons_append, List.length_cons, List.length_nil] at hst
  refine Ops.y rfl rfl rfl hst.ctx (Y.assignB rfl) ?_
  refine Ops.done rfl ?_
  refine W.ret rfl ?_
  refine ⟨_, Rslt.cellTmp Try.results14 rfl (run_load_agg Try.isAgg38 Try.sizeOf38 rfl (fun j v h => by rw [add_lit', hst.cell (.inl (List.Mem.head _)) (0 + j), Nat.zero_add]; exact h)) rfl, ?_⟩
  exact ⟨rfl, hst.drop⟩

theorem Pop_any (b : Nat) (N : Int) (qs : Qs) (who : Int) (w0 w : World) (F0 : List Nat) (L G : List Res) (hst : St w0 F0 w (QR b N qs :: L) G) (hN : 0 ≤ N) :
    Calls Try.prog 14 #[.pointer (some ⟨b, 0, none⟩), .int .i64 who] w fun e w' => ∃ c, e = .returned (.tuple #[.agg #[.string (popV qs who).1, .int .i64 (popV qs who).2], .bool c]) ∧ c = popB qs who ∧ St w0 F0 w' (QR b N (popQ qs who) :: L) G := by
  by_cases h : inR who
  · exact Pop_in b N qs who w0 w F0 L G hst hN h
  · exact Pop_out b N qs who w0 w F0 L G hst hN h

theorem Len_in (b : Nat) (N : Int) (qs : Qs) (who : Int) (w0 w : World) (F0 : List Nat) (L G : List Res) (hst : St w0 F0 w (QR b N qs :: L) G) (hN : 0 ≤ N) (hin : inR who) :
    Calls Try.prog 11 #[.pointer (some ⟨b, 0, none⟩), .int .i64 who] w fun e w' => e = .returned (.int .i64 (lenQ qs who : Int)) ∧ St w0 F0 w' (QR b N qs :: L) G := by
  obtain ⟨rows, hw, rfl, hsu⟩ := hst.openQ
  clear hst
  have hst := hsu
  clear hsu
  have hm := hw.get hin.lt
  have hr := hw.wf _ hm
  have hpre := hw.pre hin.lt
  rw [LR_at hw hin.lt] at hst
  refine W.func Try.func11 rfl Try.ntmps11 rfl ?_
  refine W.seq rfl ?_
  refine W.region rfl ?_
  refine Ops.y rfl rfl rfl hst.ctx (Y.assignI rfl) ?_
  refine Ops.done rfl ?_
  refine W.seq rfl ?_
  refine W.seq rfl ?_
  refine W.region rfl ?_
  refine Ops.y rfl rfl rfl hst.ctx (Y.moveP rfl) ?_
  refine Ops.y rfl rfl rfl hst.ctx (Y.moveI rfl) ?_
  refine Ops.x rfl rfl rfl (X.call cf20 rfl ?_)
  refine use_call (row_in b who _ hin) rfl ?_; rintro e w1 ⟨rfl, rfl⟩; refine ⟨_, rfl, ?_⟩
  refine Ops.y rfl rfl rfl hst.ctx (Y.assignP rfl) ?_
  refine Ops.done rfl ?_
  refine W.seq rfl ?_
  refine W.region rfl ?_
  refine Ops.y rfl rfl rfl hst.ctx (Y.moveP rfl) ?_
  refine Ops.y rfl rfl rfl hst.ctx (Y.notNil Try.underlying54 rfl rfl) ?_
  refine Ops.done rfl ?_
  refine W.condT rfl rfl ?_
  refine W.seq rfl ?_
  refine W.region rfl ?_
  refine Ops.y rfl rfl rfl hst.ctx (Y.moveP rfl) ?_
  refine Ops.y rfl rfl rfl hst.ctx (Y.nilCheck rfl) ?_
  first
  | refine Ops.y rfl rfl rfl hst.ctx (Y.fieldAddr fa50_2 rfl) ?_
  | refine Ops.y rfl rfl rfl hst.ctx (Y.fieldAddrP fa50_2 rfl) ?_
  refine Ops.y rfl rfl rfl hst.ctx (Y.load 0 Try.isAgg3 rfl rfl (at_count hpre hr)) ?_
  refine Ops.y rfl rfl rfl hst.ctx (Y.assignI rfl) ?_
  refine Ops.done rfl ?_
  refine W.ret rfl ?_
  refine ⟨_, Rslt.one Try.results11 rfl, ?_⟩
  refine ⟨ret_int ?_, ?_⟩
  · unfold lenQ; rw [if_pos hin, qat_map hw hin, Rw.items_length]
  · rw [← LR_at hw hin.lt] at hst; exact St.shutQ' hst hw

theorem Len_out (b : Nat) (N : Int) (qs : Qs) (who : Int) (w0 w : World) (F0 : List Nat) (L G : List Res) (hst : St w0 F0 w (QR b N qs :: L) G) (hN : 0 ≤ N) (hin : ¬ inR who) :
    Calls Try.prog 11 #[.pointer (some ⟨b, 0, none⟩), .int .i64 who] w fun e w' => e = .returned (.int .i64 (lenQ qs who : Int)) ∧ St w0 F0 w' (QR b N qs :: L) G := by
  refine W.func Try.func11 rfl Try.ntmps11 rfl ?_
  refine W.seq rfl ?_
  refine W.region rfl ?_
  refine Ops.y rfl rfl rfl hst.ctx (Y.assignI rfl) ?_
  refine Ops.done rfl ?_
  refine W.seq rfl ?_
  refine W.seq rfl ?_
  refine W.region rfl ?_
  refine Ops.y rfl rfl rfl hst.ctx (Y.moveP rfl) ?_
  refine Ops.y rfl rfl rfl hst.ctx (Y.moveI rfl) ?_
  refine Ops.x rfl rfl rfl (X.call cf20 rfl ?_)
  refine use_call (row_out b who _ hin) rfl ?_; rintro e w1 ⟨rfl, rfl⟩; refine ⟨_, rfl, ?_⟩
  refine Ops.y rfl rfl rfl hst.ctx (Y.assignP rfl) ?_
  refine Ops.done rfl ?_
  refine W.seq rfl ?_
  refine W.region rfl ?_
  refine Ops.y rfl rfl rfl hst.ctx (Y.moveP rfl) ?_
  refine Ops.y rfl rfl rfl hst.ctx (Y.notNil Try.underlying54 rfl rfl) ?_
  refine Ops.done rfl ?_
  refine W.condF rfl rfl ?_
  refine W.skip rfl ?_
  refine W.seq rfl ?_
  refine W.region rfl ?_
  refine Ops.y rfl rfl rfl hst.ctx (Y.assignI rfl) ?_
  refine Ops.done rfl ?_
  refine W.ret rfl ?_
  refine ⟨_, Rslt.one Try.results11 rfl, ?_⟩
  exact ⟨ret_int (by unfold lenQ; rw [if_neg hin]; rfl), hst⟩

theorem Len_nil (who : Int) (w : World) : Calls Try.prog 11 #[.pointer none, .int .i64 who] w fun e w' => e = .returned (.int .i64 0) ∧ w = w' := by
  refine W.func Try.func11 rfl Try.ntmps11 rfl ?_
  refine W.seq rfl ?_
  refine W.region rfl ?_
  refine Ops.y rfl rfl rfl (any _) (Y.assignI rfl) ?_
  refine Ops.done rfl ?_
  refine W.seq rfl ?_
  refine W.seq rfl ?_
  refine W.region rfl ?_
  refine Ops.y rfl rfl rfl (any _) (Y.moveP rfl) ?_
  refine Ops.y rfl rfl rfl (any _) (Y.moveI rfl) ?_
  refine Ops.x rfl rfl rfl (X.call cf20 rfl ?_)
  refine use_call (row_nil who _) rfl ?_; rintro e w1 ⟨rfl, rfl⟩; refine ⟨_, rfl, ?_⟩
  refine Ops.y rfl rfl rfl (any _) (Y.assignP rfl) ?_
  refine Ops.done rfl ?_
  refine W.seq rfl ?_
  refine W.region rfl ?_
  refine Ops.y rfl rfl rfl (any _) (Y.moveP rfl) ?_
  refine Ops.y rfl rfl rfl (any _) (Y.notNil Try.underlying54 rfl rfl) ?_
  refine Ops.done rfl ?_
  refine W.condF rfl rfl ?_
  refine W.skip rfl ?_
  refine W.seq rfl ?_
  refine W.region rfl ?_
  refine Ops.y rfl rfl rfl (any _) (Y.assignI rfl) ?_
  refine Ops.done rfl ?_
  refine W.ret rfl ?_
  refine ⟨_, Rslt.one Try.results11 rfl, ?_⟩
  exact ⟨rfl, rfl⟩

theorem Len_any (b : Nat) (N : Int) (qs : Qs) (who : Int) (w0 w : World) (F0 : List Nat) (L G : List Res) (hst : St w0 F0 w (QR b N qs :: L) G) (hN : 0 ≤ N) :
    Calls Try.prog 11 #[.pointer (some ⟨b, 0, none⟩), .int .i64 who] w fun e w' => e = .returned (.int .i64 (lenQ qs who : Int)) ∧ St w0 F0 w' (QR b N qs :: L) G := by
  by_cases h : inR who
  · exact Len_in b N qs who w0 w F0 L G hst hN h
  · exact Len_out b N qs who w0 w F0 L G hst hN h

set_option maxHeartbeats 1000000 in
theorem Clear_in (b : Nat) (N : Int) (qs : Qs) (who : Int) (w0 w : World) (F0 : List Nat) (L G : List Res) (hst : St w0 F0 w (QR b N qs :: L) G) (hN : 0 ≤ N) (hin : inR who) :
    Calls Try.prog 17 #[.pointer (some ⟨b, 0, none⟩), .int .i64 who] w fun e w' => e = .returned (.tuple #[]) ∧ St w0 F0 w' (QR b N (clearQ qs who) :: L) G := by
  obtain ⟨rows, hw, rfl, hsu⟩ := hst.openQ
  clear hst
  have hst := hsu
  clear hsu
  have hm := hw.get hin.lt
  have hr := hw.wf _ hm
  have hpre := hw.pre hin.lt
  rw [LR_at hw hin.lt] at hst
  refine W.func Try.func17 rfl Try.ntmps17 rfl ?_
  refine W.seq rfl ?_
  refine W.region rfl ?_
  refine Ops.y rfl rfl rfl hst.ctx (Y.moveP rfl) ?_
  refine Ops.y rfl rfl rfl hst.ctx (Y.moveI rfl) ?_
  refine Ops.x rfl rfl rfl (X.call cf20 rfl ?_)
  refine use_call (row_in b who _ hin) rfl ?_; rintro e w1 ⟨rfl, rfl⟩; refine ⟨_, rfl, ?_⟩
  refine Ops.y rfl rfl rfl hst.ctx (Y.assignP rfl) ?_
  refine Ops.done rfl ?_
  refine W.block rfl ?_
  refine W.loop (γ := Rw) [(4, .pointer _)] (fun q => []) (fun q w => q.Wf ∧ (∀ x ∈ q.ring, 0 ≤ x.2 ∧ x.2 ≤ N) ∧ St w0 F0 w (rowR' b (lcells (rows.take who.toNat)) q (lcells (rows.drop (who.toNat + 1))) :: L) G) (fun q => q.count) (rows.getD who.toNat zr) rfl ⟨rfl, trivial⟩ ?_ ?_ ?_
  · exact trivial
  · exact ⟨hr, hw.age _ hm, hst⟩
  · clear hst; rintro q j w3 ⟨hq, hqa, hst⟩
    refine W.seq rfl ?_
    refine W.seq rfl ?_
    refine W.region rfl ?_
    refine Ops.y rfl rfl rfl hst.ctx (Y.moveP rfl) ?_
    refine Ops.y rfl rfl rfl hst.ctx (Y.notNil Try.underlying54 rfl rfl) ?_
    refine Ops.y rfl rfl rfl hst.ctx (Y.moveB rfl) ?_
    refine Ops.y rfl rfl rfl hst.ctx (Y.moveP rfl) ?_
    refine Ops.y rfl rfl rfl hst.ctx (Y.nilCheck rfl) ?_
    first
    | refine Ops.y rfl rfl rfl hst.ctx (Y.fieldAddr fa50_2 rfl) ?_
    | refine Ops.y rfl rfl rfl hst.ctx (Y.fieldAddrP fa50_2 rfl) ?_
    refine Ops.y rfl rfl rfl hst.ctx (Y.load 0 Try.isAgg3 rfl rfl (at_count hpre hq)) ?_
    refine Ops.yb rfl rfl rfl hst.ctx (Y.gtr rfl rfl) (fun b15 hb15 => ?_)
    refine Ops.y rfl rfl rfl hst.ctx (Y.pick (.bool _) rfl rfl) ?_
    refine Ops.done rfl ?_
    cases b15
    · replace hb15 := of_decide_eq_false hb15.symm
      refine W.condF rfl rfl ?_
      refine W.exit rfl ?_
      refine ⟨_, Rslt.none Try.results17, ?_⟩
      exact ⟨rfl, clear_done hw hin hq hqa (by omega) hst⟩
    · replace hb15 := of_decide_eq_true hb15.symm
      refine W.condT rfl rfl ?_
      refine W.skip rfl ?_
      refine W.block rfl ?_
      refine W.region rfl ?_
      refine Ops.y rfl rfl rfl hst.ctx (Y.moveP rfl) ?_
      refine Ops.x rfl rfl rfl (X.call cf22 rfl ?_)
      refine use_call (pop_any b _ _ _ q _ _ _ _ _ hst hpre hq (by omega)) rfl ?_; clear hst; rintro e w2 ⟨rfl, hst⟩; refine ⟨_, rfl, ?_⟩
      refine Ops.done rfl ?_
      exact ⟨q.pop, trivial, ⟨rfl, trivial⟩, ⟨hq.pop, age_pop hN hqa, hst⟩, by simp only [Rw.pop]; omega⟩

theorem Clear_out (b : Nat) (N : Int) (qs : Qs) (who : Int) (w0 w : World) (F0 : List Nat) (L G : List Res) (hst : St w0 F0 w (QR b N qs :: L) G) (hN : 0 ≤ N) (hin : ¬ inR who) :
    Calls Try.prog 17 #[.pointer (some ⟨b, 0, none⟩), .int .i64 who] w fun e w' => e = .returned (.tuple #[]) ∧ St w0 F0 w' (QR b N (clearQ qs who) :: L) G := by
  refine W.func Try.func17 rfl Try.ntmps17 rfl ?_
  refine W.seq rfl ?_
  refine W.region rfl ?_
  refine Ops.y rfl rfl rfl hst.ctx (Y.moveP rfl) ?_
  refine Ops.y rfl rfl rfl hst.ctx (Y.moveI rfl) ?_
  refine Ops.x rfl rfl rfl (X.call cf20 rfl ?_)
  refine use_call (row_out b who _ hin) rfl ?_; rintro e w1 ⟨rfl, rfl⟩; refine ⟨_, rfl, ?_⟩
  refine Ops.y rfl rfl rfl hst.ctx (Y.assignP rfl) ?_
  refine Ops.done rfl ?_
  refine W.block rfl ?_
  refine W.loop (γ := Unit) [(4, .pointer _)] (fun _ => []) (fun _ w => St w0 F0 w (QR b N qs :: L) G) (fun _ => 0) (()) rfl ⟨rfl, trivial⟩ ?_ ?_ ?_
  · exact trivial
  · exact hst
  · clear hst; rintro _ j w3 hst
    refine W.seq rfl ?_
    refine W.seq rfl ?_
    refine W.region rfl ?_
    refine Ops.y rfl rfl rfl hst.ctx (Y.moveP rfl) ?_
    refine Ops.y rfl rfl rfl hst.ctx (Y.notNil Try.underlying54 rfl rfl) ?_
    refine Ops.y rfl rfl rfl hst.ctx (Y.moveB rfl) ?_
    refine Ops.no rfl rfl rfl ?_
    refine Ops.no rfl rfl rfl ?_
    refine Ops.no rfl rfl rfl ?_
    refine Ops.no rfl rfl rfl ?_
    refine Ops.no rfl rfl rfl ?_
    refine Ops.y rfl rfl rfl hst.ctx (Y.pick (.bool _) rfl rfl) ?_
    refine Ops.done rfl ?_
    refine W.condF rfl rfl ?_
    refine W.exit rfl ?_
    refine ⟨_, Rslt.none Try.results17, ?_⟩
    exact ⟨rfl, by unfold clearQ; rw [if_neg hin]; exact hst⟩

theorem Clear_nil (who : Int) (W1 : World) : Calls Try.prog 17 #[.pointer none, .int .i64 who] W1 fun e w' => e = .returned (.tuple #[]) ∧ W1 = w' := by
  refine W.func Try.func17 rfl Try.ntmps17 rfl ?_
  refine W.seq rfl ?_
  refine W.region rfl ?_
  refine Ops.y rfl rfl rfl (any _) (Y.moveP rfl) ?_
  refine Ops.y rfl rfl rfl (any _) (Y.moveI rfl) ?_
  refine Ops.x rfl rfl rfl (X.call cf20 rfl ?_)
  refine use_call (row_nil who _) rfl ?_; rintro e w1 ⟨rfl, rfl⟩; refine ⟨_, rfl, ?_⟩
  refine Ops.y rfl rfl rfl (any _) (Y.assignP rfl) ?_
  refine Ops.done rfl ?_
  refine W.block rfl ?_
  refine W.loop (γ := Unit) [(4, .pointer _)] (fun _ => []) (fun _ w => w = W1) (fun _ => 0) (()) rfl ⟨rfl, trivial⟩ ?_ ?_ ?_
  · exact trivial
  · rfl
  · rintro _ j w3 rfl
    refine W.seq rfl ?_
    refine W.seq rfl ?_
    refine W.region rfl ?_
    refine Ops.y rfl rfl rfl (any _) (Y.moveP rfl) ?_
    refine Ops.y rfl rfl rfl (any _) (Y.notNil Try.underlying54 rfl rfl) ?_
    refine Ops.y rfl rfl rfl (any _) (Y.moveB rfl) ?_
    refine Ops.no rfl rfl rfl ?_
    refine Ops.no rfl rfl rfl ?_
    refine Ops.no rfl rfl rfl ?_
    refine Ops.no rfl rfl rfl ?_
    refine Ops.no rfl rfl rfl ?_
    refine Ops.y rfl rfl rfl (any _) (Y.pick (.bool _) rfl rfl) ?_
    refine Ops.done rfl ?_
    refine W.condF rfl rfl ?_
    refine W.exit rfl ?_
    refine ⟨_, Rslt.none Try.results17, ?_⟩
    exact ⟨rfl, rfl⟩

theorem Clear_any (b : Nat) (N : Int) (qs : Qs) (who : Int) (w0 w : World) (F0 : List Nat) (L G : List Res) (hst : St w0 F0 w (QR b N qs :: L) G) (hN : 0 ≤ N) :
    Calls Try.prog 17 #[.pointer (some ⟨b, 0, none⟩), .int .i64 who] w fun e w' => e = .returned (.tuple #[]) ∧ St w0 F0 w' (QR b N (clearQ qs who) :: L) G := by
  by_cases h : inR who
  · exact Clear_in b N qs who w0 w F0 L G hst hN h
  · exact Clear_out b N qs who w0 w F0 L G hst hN h
end Go.Proofs.Ytcafmbbimoddjaa.LN
