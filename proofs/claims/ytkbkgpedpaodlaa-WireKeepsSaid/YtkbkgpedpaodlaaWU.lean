/- The walk of the reference's Decode. -/
import Derived.Test.YtkbkgpedpaodlaaWT
set_option linter.unusedVariables false
set_option linter.unusedSimpArgs false
namespace Go.Proofs.Ytkbkgpedpaodlaa.W
open Go.RowKit Go.Proofs.Ytkbkgpedpaodlaa.K Go.Proofs.Ytkbkgpedpaodlaa.CM
theorem refopen_any (l : List UInt8) (w0 w : World) (F0 : List Nat) (L G : List Res) (hst : St w0 F0 w L G) (hl : l.length ≤ 1000000) :
    Calls Try.prog 32 #[.string (str l)] w fun e w' => ∃ b, e = .returned (.tuple #[.string (str ((opn l).getD [])), .bool b]) ∧ b = decide (opn l ≠ none) ∧ St w0 F0 w' L G := by
  by_cases h4 : l.length < 4
  · refine (CW.refopen_short l w0 w F0 L G hst h4).mono ?_
    rintro e w' ⟨rfl, hst⟩
    have e : opn l = none := by unfold opn; rw [if_pos h4]
    rw [e]
    exact ⟨false, rfl, by simp, hst⟩
  · have hd : (l.drop (l.length - 4)).length = 4 := by rw [List.length_drop]; omega
    have hsp : l.take (l.length - 4) ++ l.drop (l.length - 4) = l := List.take_append_drop _ _
    have htl : (l.take (l.length - 4)).length = l.length - 4 := by rw [List.length_take]; omega
    by_cases hs : l.drop (l.length - 4) = le4 (crc (l.take (l.length - 4)))
    · have e : opn l = some (l.take (l.length - 4)) := by unfold opn; rw [if_neg h4, if_pos hs]
      have hse : sealed (l.take (l.length - 4)) = l := by unfold sealed; rw [← hs]; exact hsp
      have h := CW.refopen_yes (l.take (l.length - 4)) w0 w F0 L G hst (by omega)
      rw [hse] at h
      refine h.mono ?_
      rintro e w' ⟨rfl, hst⟩
      rw [e]
      exact ⟨true, rfl, by simp, hst⟩
    · have e : opn l = none := by unfold opn; rw [if_neg h4, if_neg hs]
      have h := CW.refopen_no (l.take (l.length - 4)) (l.drop (l.length - 4)) hd hs w0 w F0 L G hst (by omega)
      rw [hsp] at h
      refine h.mono ?_
      rintro e w' ⟨rfl, hst⟩
      rw [e]
      exact ⟨false, rfl, by simp, hst⟩
theorem opn_len {l q : List UInt8} (h : opn l = some q) : q.length ≤ l.length := by
  have := opn_some h
  have h2 := congrArg List.length this
  rw [sealed_len] at h2
  omega
/-- What Encode answers of a message. -/
def encM (m : M) : ByteArray × Int := if m.Ok then (str (sealed m.fr), 0) else (⟨#[]⟩, 1)
theorem encM_ok {m : M} (h : m.Ok) : encM m = (str (sealed m.fr), 0) := by unfold encM; rw [if_pos h]
theorem encM_no {m : M} (h : ¬ m.Ok) : encM m = (⟨#[]⟩, 1) := by unfold encM; rw [if_neg h]
theorem encM_iff {m : M} : (encM m).2 = 0 ↔ m.Ok := by
  by_cases h : m.Ok
  · rw [encM_ok h]; exact ⟨fun _ => h, fun _ => rfl⟩
  · rw [encM_no h]; exact ⟨fun h2 => absurd h2 (by decide), fun h2 => absurd h2 h⟩
theorem sealed_inj {p q : List UInt8} (h : sealed p = sealed q) : p = q := by
  have h1 := opn_sealed p
  rw [h, opn_sealed] at h1
  injection h1 with h1
  exact h1.symm
theorem rdM_in (q : List UInt8) : (rdM q).In := by
  refine ⟨?_, rdTab_in _ _, ?_⟩
  · show (rdTab q _).length ≤ _
    rw [rdTab_length]
    have := UInt8.toNat_lt (gb q 3)
    omega
  · have h0 := UInt8.toNat_lt (gb q 0)
    have h1 := UInt8.toNat_lt (gb q 1)
    intro x hx
    simp only [List.mem_cons, List.not_mem_nil, or_false] at hx
    rcases hx with rfl | rfl | rfl | rfl | rfl | rfl | rfl | rfl | rfl | rfl | rfl
    · show In64 ((gb q 0).toNat : Int)
      unfold In64; omega
    · show In64 ((gb q 1).toNat : Int)
      unfold In64; omega
    all_goals exact rd8_in _
theorem rd_yes {l q : List UInt8} (hll : ¬ 4096 < l.length) (hp : opn l = some q) (h0 : (encM (rdM q)).2 = 0) (h1 : (encM (rdM q)).1 = str l) : decR l = (rdM q, 0) := by
  have hok := encM_iff.1 h0
  rw [encM_ok hok] at h1
  have h2 : sealed (rdM q).fr = l := str_inj.1 h1
  have h3 : (rdM q).fr = q := sealed_inj (h2.trans (opn_some hp))
  have hf := form_fr (rdM q) hok
  rw [h3] at hf
  exact decR_ok hll hp hf hok
theorem rd_no {l q : List UInt8} (hll : ¬ 4096 < l.length) (hp : opn l = some q) (h : ¬ ((encM (rdM q)).2 = 0 ∧ (encM (rdM q)).1 = str l)) : decR l = (M0, 4) := by
  by_cases hf : FormOk q
  · refine decR_bad hll hp (fun hok => h ?_)
    rw [encM_ok hok, fr_rdM hf, ← opn_some hp]
    exact ⟨rfl, rfl⟩
  · exact decR_form hll hp hf
theorem Y.nat1 {P : Program} {S : World → Prop} {ρ : Env} {ty t t' : TypeId} {x : Operand} {n : Nat} (hx : ev ρ x = .int .u8 ((n : Int) % 2)) : Y P S ρ (.binOp .eql t x (.const (.int .u8 1)) t') ty (.bool (decide (n % 2 = 1))) := by
  have e : decide ((n : Int) % 2 = 1) = decide (n % 2 = 1) := by
    rw [decide_eq_decide]
    omega
  rw [← e]; exact Y.eql hx rfl
theorem Y.half {P : Program} {S : World → Prop} {ρ : Env} {ty t t' : TypeId} {x : Operand} {c : UInt8} (hx : ev ρ x = .int .u8 (c.toNat : Int)) : Y P S ρ (.binOp .quo t x (.const (.int .u8 2)) t') ty (.int .u8 ((c.toNat / 2 : Nat) : Int)) := by
  have hc := UInt8.toNat_lt c
  have e : IntKind.u8.wrap ((c.toNat : Int).tdiv 2) = ((c.toNat / 2 : Nat) : Int) := by
    rw [wrap_u8, Int.tdiv_eq_ediv_of_nonneg (by omega)]
    omega
  rw [← e]; exact Y.quo hx rfl (by decide)
theorem res_cell {p : Nat} {ms : List Value} (hms : ms.length = 14) {w0 w : World} {F0 : List Nat} {L G : List Res} (hst : St w0 F0 w (cellsR p ms 28 :: L) G) : (loadVar 28 ⟨p, 0, none⟩).run Try.prog w = .ok (.agg ms.toArray) w :=
  run_load_agg (w := w) (ad := ⟨p, 0, none⟩) (vs := ms) Try.isAgg28 Try.sizeOf28 hms (fun j v h => by rw [add_lit', hst.cell (.inl (List.Mem.head _)) (0 + j), Nat.zero_add]; exact h)
theorem bd23_0_1 {S ρ ty} {parts : Array (Nat × Operand)} {x0 : Int} {x1 : Int} (hp : (parts.toList.map fun x => (x.1, ev ρ x.2)) = [(0, Value.int .i64 x0), (1, Value.int .i64 x1)]) : Y Try.prog S ρ (.build 23 parts) ty (.agg #[Value.int .i64 x0, Value.int .i64 x1]) :=
  Y.build hp fun w => by simp [Instr.build, go_sem]
theorem bd25_0_1 {S ρ ty} {parts : Array (Nat × Operand)} {x0 : Int} {x1 : Int} (hp : (parts.toList.map fun x => (x.1, ev ρ x.2)) = [(0, Value.int .i64 x0), (1, Value.int .i64 x1)]) : Y Try.prog S ρ (.build 25 parts) ty (.agg #[Value.int .i64 x0, Value.int .i64 x1]) :=
  Y.build hp fun w => by simp [Instr.build, go_sem]
theorem bd28_0_1_3_4_8 {S ρ ty} {parts : Array (Nat × Operand)} {x0 : Int} {x1 : Int} {x3 : Int} {x4 : Int} {x8 : Int} (hp : (parts.toList.map fun x => (x.1, ev ρ x.2)) = [(0, Value.int .i64 x0), (1, Value.int .i64 x1), (3, Value.int .i64 x3), (4, Value.int .i64 x4), (8, Value.int .i64 x8)]) : Y Try.prog S ρ (.build 28 parts) ty (.agg #[Value.int .i64 x0, Value.int .i64 x1, Value.int .i64 0, Value.int .i64 0, Value.int .i64 x3, Value.int .i64 x4, Value.bool false, Value.bool false, Value.int .i64 0, Value.int .i64 0, Value.int .i64 x8, Value.int .i64 0, Value.int .i64 0, Value.slice none 0 0]) :=
  Y.build hp fun w => by simp [Instr.build, go_sem]
theorem bd45_0_1 {S ρ ty} {parts : Array (Nat × Operand)} {x0 : Int} {x1 : Int} (hp : (parts.toList.map fun x => (x.1, ev ρ x.2)) = [(0, Value.int .i64 x0), (1, Value.int .i64 x1)]) : Y Try.prog S ρ (.build 45 parts) ty (.agg #[Value.int .i64 x0, Value.int .i64 x1]) :=
  Y.build hp fun w => by simp [Instr.build, go_sem]
theorem cf17 : ∀ args w, (callFunc 17 args).run Try.prog w = .ok (.enter 17 args) w := fun _ _ => by simp [go_sem]
theorem cf32 : ∀ args w, (callFunc 32 args).run Try.prog w = .ok (.enter 32 args) w := fun _ _ => by simp [go_sem]
theorem cf33 : ∀ args w, (callFunc 33 args).run Try.prog w = .ok (.enter 33 args) w := fun _ _ => by simp [go_sem]

set_option maxHeartbeats 4000000 in
theorem rDecode_any (l : List UInt8) (w0 w : World) (F0 : List Nat) (L G : List Res) (hst : St w0 F0 w L G) (hl : l.length ≤ 1000000) :
    Calls Try.prog 19 #[.string (str l)] w (DPost l w0 F0 L G) := by
  refine W.func Try.func19 rfl Try.ntmps19 rfl ?_
  refine W.seq rfl ?_
  refine W.region rfl ?_
  refine Ops.x rfl rfl rfl (X.allocA hst Try.zeroValue28 ?_)
  clear hst; intro p2 w2 hst
  refine Ops.y rfl rfl rfl hst.ctx (Y.assignI rfl) ?_
  refine Ops.done rfl ?_
  refine W.seq rfl ?_
  refine W.seq rfl ?_
  refine W.region rfl ?_
  refine Ops.y rfl rfl rfl hst.ctx (Y.moveT rfl) ?_
  refine Ops.y rfl rfl rfl hst.ctx (Y.lenT Try.underlying9 rfl) ?_
  refine Ops.yb rfl rfl rfl hst.ctx (Y.gtr rfl rfl) (fun b12 hb12 => ?_)
  refine Ops.done rfl ?_
  cases b12
  · replace hb12 := of_decide_eq_false hb12.symm
    refine W.condF rfl rfl ?_
    refine W.skip rfl ?_
    refine W.seq rfl ?_
    have hll : ¬ 4096 < l.length := by rw [str_sz] at hb12; omega
    refine W.region rfl ?_
    refine Ops.y rfl rfl rfl hst.ctx (Y.moveT rfl) ?_
    refine Ops.x rfl rfl rfl (X.call cf32 rfl ?_)
    refine use_call (refopen_any l _ _ _ _ _ hst hl) rfl ?_; clear hst; rintro e w4 ⟨b18, rfl, hb18, hst⟩
    generalize hq : (opn l).getD [] = q
    refine ⟨_, rfl, ?_⟩
    refine Ops.y rfl rfl rfl hst.ctx (Y.moveU rfl) ?_
    refine Ops.y rfl rfl rfl hst.ctx (Y.extract rfl rfl) ?_
    refine Ops.y rfl rfl rfl hst.ctx (Y.extract rfl rfl) ?_
    refine Ops.y rfl rfl rfl hst.ctx (Y.assignT rfl) ?_
    refine Ops.y rfl rfl rfl hst.ctx (Y.assignB rfl) ?_
    refine Ops.done rfl ?_
    refine W.seq rfl ?_
    refine W.seq rfl ?_
    refine W.region rfl ?_
    refine Ops.y rfl rfl rfl hst.ctx (Y.moveB rfl) ?_
    cases b18
    · replace hb18 := of_decide_eq_false hb18.symm
      refine Ops.y rfl rfl rfl hst.ctx (Y.not rfl) ?_
      refine Ops.done rfl ?_
      refine W.condT rfl rfl ?_
      refine W.seq rfl ?_
      refine W.region rfl ?_
      refine Ops.y rfl rfl rfl hst.ctx (bd28_ rfl) ?_
      first
      | refine Ops.x rfl rfl rfl (X.storeS hst 0 Try.sizeOf28 rfl rfl rfl rfl rfl (Nat.le_of_ble_eq_true rfl) rfl rfl ?_)
      | refine Ops.x rfl rfl rfl (X.storeS hst 1 Try.sizeOf28 rfl rfl rfl rfl rfl (Nat.le_of_ble_eq_true rfl) rfl rfl ?_)
      clear hst; intro w5_1 hst
      try simp only [List.set_cons_zero, List.set_cons_succ, Nat.zero_add, Nat.reduceAdd, splice, List.take, List.drop, List.append_eq, List.nil_append, List.cons_append, List.length_cons, List.length_nil] at hst
      refine Ops.y rfl rfl rfl hst.ctx (Y.assignI rfl) ?_
      refine Ops.done rfl ?_
      refine W.ret rfl ?_
      refine ⟨_, Rslt.cellTmp Try.results19 rfl (res_cell (ms := zms) rfl (L := L) hst) rfl, ?_⟩
      exact dec_fail (decR_sum hll (by simpa using hb18)) (St.drop hst)
    · replace hb18 := of_decide_eq_true hb18.symm
      refine Ops.y rfl rfl rfl hst.ctx (Y.not rfl) ?_
      refine Ops.done rfl ?_
      refine W.condF rfl rfl ?_
      refine W.skip rfl ?_
      refine W.seq rfl ?_
      refine W.seq rfl ?_
      have hp : opn l = some q := by
        rw [← hq]; cases e : opn l with
        | none => exact absurd e hb18
        | some p => rfl
      have hql : q.length ≤ l.length := opn_len hp
      have hb3 := UInt8.toNat_lt (q.getD 3 0)
      have hsq := str_sz q
      refine W.region rfl ?_
      refine Ops.y rfl rfl rfl hst.ctx (Y.moveT rfl) ?_
      refine Ops.y rfl rfl rfl hst.ctx (Y.lenT Try.underlying9 rfl) ?_
      refine Ops.yb rfl rfl rfl hst.ctx (Y.lss rfl rfl) (fun b24 hb24 => ?_)
      refine Ops.y rfl rfl rfl hst.ctx (Y.moveB rfl) ?_
      cases b24
      · replace hb24 := of_decide_eq_false hb24.symm
        refine Ops.y rfl rfl rfl hst.ctx (Y.moveT rfl) ?_
        refine Ops.y rfl rfl rfl hst.ctx (Y.lenT Try.underlying9 rfl) ?_
        refine Ops.y rfl rfl rfl hst.ctx (Y.moveT rfl) ?_
        refine Ops.y rfl rfl rfl hst.ctx (Y.indexT Try.underlying9 (k := 3) rfl rfl rfl (by omega)) ?_
        refine Ops.y rfl rfl rfl hst.ctx (Y.byteInt Try.underlying3 Try.underlying5 rfl) ?_
        refine Ops.y rfl rfl rfl hst.ctx (Y.mulI rfl rfl (by omega)) ?_
        refine Ops.y rfl rfl rfl hst.ctx (Y.addI rfl rfl (by omega)) ?_
        refine Ops.yb rfl rfl rfl hst.ctx (Y.neq rfl rfl) (fun b33 hb33 => ?_)
        refine Ops.y rfl rfl rfl hst.ctx (Y.pick (.bool _) rfl rfl) ?_
        refine Ops.done rfl ?_
        cases b33
        · replace hb33 := of_decide_eq_false hb33.symm
          refine W.condF rfl rfl ?_
          refine W.skip rfl ?_
          refine W.seq rfl ?_
          have hq76 : 76 ≤ q.length ∧ q.length = 76 + 16 * (q.getD 3 0).toNat := by rw [str_sz] at hb24 hb33; omega
          refine W.cut [(0, .string _), (2, .pointer _), (4, .string _)] (fun x : Nat => [(6, .pointer (some ⟨x, 0, none⟩))]) (fun x w => St w0 F0 w (cellsR x [.int .i64 ((gb q 0).toNat : Int), .int .i64 ((gb q 1).toNat : Int), .int .i64 0, .int .i64 0, .int .i64 (numAt q 2), .int .i64 (numAt q 3), .bool false, .bool false, .int .i64 0, .int .i64 0, .int .i64 (numAt q 6), .int .i64 0, .int .i64 0, .slice none 0 0] 28 :: cellsR p2 zms 28 :: L) G) ⟨rfl, rfl, rfl, trivial⟩ ?_ ?_
          rotate_left
          · clear hst; rintro p6 j w8 hst
            refine W.seq rfl ?_
            refine W.region rfl ?_
            refine Ops.y rfl rfl rfl hst.ctx (Y.moveT rfl) ?_
            refine Ops.x rfl rfl rfl (X.call cf33 rfl ?_)
            refine use_call (number_any q 0 (by omega) (by omega) _ _ _ _ _ hst) rfl ?_; clear hst; rintro e w50 ⟨rfl, hst⟩; refine ⟨_, rfl, ?_⟩
            refine Ops.y rfl rfl rfl hst.ctx (Y.moveT rfl) ?_
            refine Ops.x rfl rfl rfl (X.call cf33 rfl ?_)
            refine use_call (number_any q 1 (by omega) (by omega) _ _ _ _ _ hst) rfl ?_; clear hst; rintro e w52 ⟨rfl, hst⟩; refine ⟨_, rfl, ?_⟩
            refine Ops.y rfl rfl rfl hst.ctx (bd23_0_1 rfl) ?_
            first
            | refine Ops.y rfl rfl rfl hst.ctx (Y.fieldAddr fa28_2 rfl) ?_
            | refine Ops.y rfl rfl rfl hst.ctx (Y.fieldAddrP fa28_2 rfl) ?_
            first
            | refine Ops.x rfl rfl rfl (X.storeS hst 0 Try.sizeOf23 rfl rfl rfl rfl rfl (Nat.le_of_ble_eq_true rfl) rfl rfl ?_)
            | refine Ops.x rfl rfl rfl (X.storeS hst 1 Try.sizeOf23 rfl rfl rfl rfl rfl (Nat.le_of_ble_eq_true rfl) rfl rfl ?_)
            clear hst; intro w9_6 hst
            try simp only [List.set_cons_zero, List.set_cons_succ, Nat.zero_add, Nat.reduceAdd, splice, List.take, List.drop, List.append_eq, List.nil_append, List.cons_append, List.length_cons, List.length_nil] at hst
            refine Ops.done rfl ?_
            refine W.seq rfl ?_
            refine W.region rfl ?_
            refine Ops.y rfl rfl rfl hst.ctx (Y.moveT rfl) ?_
            refine Ops.x rfl rfl rfl (X.call cf33 rfl ?_)
            refine use_call (number_any q 4 (by omega) (by omega) _ _ _ _ _ hst) rfl ?_; clear hst; rintro e w56 ⟨rfl, hst⟩; refine ⟨_, rfl, ?_⟩
            refine Ops.y rfl rfl rfl hst.ctx (Y.moveT rfl) ?_
            refine Ops.x rfl rfl rfl (X.call cf33 rfl ?_)
            refine use_call (number_any q 5 (by omega) (by omega) _ _ _ _ _ hst) rfl ?_; clear hst; rintro e w58 ⟨rfl, hst⟩; refine ⟨_, rfl, ?_⟩
            refine Ops.y rfl rfl rfl hst.ctx (bd23_0_1 rfl) ?_
            first
            | refine Ops.y rfl rfl rfl hst.ctx (Y.fieldAddr fa28_7 rfl) ?_
            | refine Ops.y rfl rfl rfl hst.ctx (Y.fieldAddrP fa28_7 rfl) ?_
            first
            | refine Ops.x rfl rfl rfl (X.storeS hst 0 Try.sizeOf23 rfl rfl rfl rfl rfl (Nat.le_of_ble_eq_true rfl) rfl rfl ?_)
            | refine Ops.x rfl rfl rfl (X.storeS hst 1 Try.sizeOf23 rfl rfl rfl rfl rfl (Nat.le_of_ble_eq_true rfl) rfl rfl ?_)
            clear hst; intro w10_6 hst
            try simp only [List.set_cons_zero, List.set_cons_succ, Nat.zero_add, Nat.reduceAdd, splice, List.take, List.drop, List.append_eq, List.nil_append, List.cons_append, List.length_cons, List.length_nil] at hst
            refine Ops.done rfl ?_
            refine W.seq rfl ?_
            refine W.region rfl ?_
            refine Ops.y rfl rfl rfl hst.ctx (Y.moveT rfl) ?_
            refine Ops.x rfl rfl rfl (X.call cf33 rfl ?_)
            refine use_call (number_any q 7 (by omega) (by omega) _ _ _ _ _ hst) rfl ?_; clear hst; rintro e w62 ⟨rfl, hst⟩; refine ⟨_, rfl, ?_⟩
            refine Ops.y rfl rfl rfl hst.ctx (Y.moveT rfl) ?_
            refine Ops.x rfl rfl rfl (X.call cf33 rfl ?_)
            refine use_call (number_any q 8 (by omega) (by omega) _ _ _ _ _ hst) rfl ?_; clear hst; rintro e w64 ⟨rfl, hst⟩; refine ⟨_, rfl, ?_⟩
            refine Ops.y rfl rfl rfl hst.ctx (bd25_0_1 rfl) ?_
            first
            | refine Ops.y rfl rfl rfl hst.ctx (Y.fieldAddr fa28_9 rfl) ?_
            | refine Ops.y rfl rfl rfl hst.ctx (Y.fieldAddrP fa28_9 rfl) ?_
            first
            | refine Ops.x rfl rfl rfl (X.storeS hst 0 Try.sizeOf25 rfl rfl rfl rfl rfl (Nat.le_of_ble_eq_true rfl) rfl rfl ?_)
            | refine Ops.x rfl rfl rfl (X.storeS hst 1 Try.sizeOf25 rfl rfl rfl rfl rfl (Nat.le_of_ble_eq_true rfl) rfl rfl ?_)
            clear hst; intro w11_6 hst
            try simp only [List.set_cons_zero, List.set_cons_succ, Nat.zero_add, Nat.reduceAdd, splice, List.take, List.drop, List.append_eq, List.nil_append, List.cons_append, List.length_cons, List.length_nil] at hst
            refine Ops.done rfl ?_
            refine W.seq rfl ?_
            refine W.region rfl ?_
            refine Ops.y rfl rfl rfl hst.ctx (Y.moveT rfl) ?_
            refine Ops.y rfl rfl rfl hst.ctx (Y.indexT Try.underlying9 (k := 2) rfl rfl rfl (by omega)) ?_
            refine Ops.y rfl rfl rfl hst.ctx (Y.remI rfl rfl (by omega)) ?_
            refine Ops.y rfl rfl rfl hst.ctx (Y.nat1 rfl) ?_
            first
            | refine Ops.y rfl rfl rfl hst.ctx (Y.fieldAddr fa28_5 rfl) ?_
            | refine Ops.y rfl rfl rfl hst.ctx (Y.fieldAddrP fa28_5 rfl) ?_
            first
            | refine Ops.x rfl rfl rfl (X.storeV hst 0 (.bool _) Try.sizeOf4 rfl rfl rfl rfl (Nat.le_of_ble_eq_true rfl) rfl rfl ?_)
            | refine Ops.x rfl rfl rfl (X.storeV hst 1 (.bool _) Try.sizeOf4 rfl rfl rfl rfl (Nat.le_of_ble_eq_true rfl) rfl rfl ?_)
            clear hst; intro w12_5 hst
            try simp only [List.set_cons_zero, List.set_cons_succ, Nat.zero_add, Nat.reduceAdd, splice, List.take, List.drop, List.append_eq, List.nil_append, List.cons_append, List.length_cons, List.length_nil] at hst
            refine Ops.done rfl ?_
            refine W.seq rfl ?_
            refine W.region rfl ?_
            refine Ops.y rfl rfl rfl hst.ctx (Y.moveT rfl) ?_
            refine Ops.y rfl rfl rfl hst.ctx (Y.indexT Try.underlying9 (k := 2) rfl rfl rfl (by omega)) ?_
            refine Ops.y rfl rfl rfl hst.ctx (Y.half rfl) ?_
            refine Ops.y rfl rfl rfl hst.ctx (Y.remI rfl rfl (by omega)) ?_
            refine Ops.y rfl rfl rfl hst.ctx (Y.nat1 rfl) ?_
            first
            | refine Ops.y rfl rfl rfl hst.ctx (Y.fieldAddr fa28_6 rfl) ?_
            | refine Ops.y rfl rfl rfl hst.ctx (Y.fieldAddrP fa28_6 rfl) ?_
            first
            | refine Ops.x rfl rfl rfl (X.storeV hst 0 (.bool _) Try.sizeOf4 rfl rfl rfl rfl (Nat.le_of_ble_eq_true rfl) rfl rfl ?_)
            | refine Ops.x rfl rfl rfl (X.storeV hst 1 (.bool _) Try.sizeOf4 rfl rfl rfl rfl (Nat.le_of_ble_eq_true rfl) rfl rfl ?_)
            clear hst; intro w13_6 hst
            try simp only [List.set_cons_zero, List.set_cons_succ, Nat.zero_add, Nat.reduceAdd, splice, List.take, List.drop, List.append_eq, List.nil_append, List.cons_append, List.length_cons, List.length_nil] at hst
            refine Ops.done rfl ?_
            refine W.seq rfl ?_
            refine W.seq rfl ?_
            replace hst : St w0 F0 _ (cellsR p6 (cellsK q none 0 0) 28 :: cellsR p2 zms 28 :: L) G := hst
            replace hst := hst.nilRow 45 2
            refine W.region rfl ?_
            refine Ops.y rfl rfl rfl hst.ctx (Y.assignI rfl) ?_
            refine Ops.done rfl ?_
            refine W.block rfl ?_
            refine W.loop (γ := Nat) [(0, .string _), (2, .pointer _), (4, .string _), (6, .pointer _)] (fun k => [(7, .int .i64 (k : Int))]) (fun k w => k ≤ (q.getD 3 0).toNat ∧ ∃ A c, St w0 F0 w (rowR (.slice A k c) 45 2 k (lcs (rdTab q k)) :: cellsR p6 (cellsK q A k c) 28 :: cellsR p2 zms 28 :: L) G) (fun k => (q.getD 3 0).toNat - k) (0) rfl ⟨rfl, rfl, rfl, rfl, trivial⟩ ?_ ?_ ?_
            · exact ⟨rfl, trivial⟩
            · exact ⟨by omega, none, 0, hst⟩
            · clear hst; rintro k j w15 ⟨hk, A, c, hst⟩
              refine W.seq rfl ?_
              refine W.seq rfl ?_
              refine W.region rfl ?_
              refine Ops.y rfl rfl rfl hst.ctx (Y.moveI rfl) ?_
              refine Ops.y rfl rfl rfl hst.ctx (Y.moveT rfl) ?_
              refine Ops.y rfl rfl rfl hst.ctx (Y.indexT Try.underlying9 (k := 3) rfl rfl rfl (by omega)) ?_
              refine Ops.y rfl rfl rfl hst.ctx (Y.byteInt Try.underlying3 Try.underlying5 rfl) ?_
              refine Ops.yb rfl rfl rfl hst.ctx (Y.lss rfl rfl) (fun b82 hb82 => ?_)
              refine Ops.done rfl ?_
              cases b82
              · replace hb82 := of_decide_eq_false hb82.symm
                refine W.condF rfl rfl ?_
                refine W.exit rfl ?_
                refine W.seq rfl ?_
                have hkn : k = (q.getD 3 0).toNat := by omega
                have et : (rdM q).tab = rdTab q k := by rw [hkn]; rfl
                have el : (rdM q).tab.length = k := by rw [et, rdTab_length]
                have e1 : cellsK q A k c = (rdM q).cells A c := by unfold cellsK M.cells; rw [el]
                rw [e1, ← et] at hst
                have e2 : rowR (.slice A k c) 45 2 k (lcs (rdM q).tab) = rowR (.slice A (rdM q).tab.length c) 45 2 (rdM q).tab.length (lcs (rdM q).tab) := by rw [el]
                rw [e2] at hst
                refine W.region rfl ?_
                refine Ops.y rfl rfl rfl hst.ctx (Y.loadA 1 Try.isAgg28 Try.sizeOf28 rfl rfl rfl rfl) ?_
                refine Ops.x rfl rfl rfl (X.call cf17 rfl ?_)
                refine use_call (rEncode_any _ _ _ _ _ _ _ _ _ _ _ _ _ (rdM q).tab _ _ _ _ _ _ _ hst (Rds.rowL 0 rfl) (rdM_in q)) rfl ?_; clear hst; rintro e w18 ⟨rfl, hst⟩; refine ⟨_, rfl, ?_⟩
                refine Ops.y rfl rfl rfl hst.ctx (Y.moveU rfl) ?_
                refine Ops.y rfl rfl rfl hst.ctx (Y.extract rfl rfl) ?_
                refine Ops.y rfl rfl rfl hst.ctx (Y.extract rfl rfl) ?_
                refine Ops.y rfl rfl rfl hst.ctx (Y.assignT rfl) ?_
                refine Ops.y rfl rfl rfl hst.ctx (Y.assignI rfl) ?_
                refine Ops.done rfl ?_
                refine W.seq rfl ?_
                refine W.seq rfl ?_
                refine W.region rfl ?_
                refine Ops.y rfl rfl rfl hst.ctx (Y.moveI rfl) ?_
                refine Ops.yb rfl rfl rfl hst.ctx (Y.neq rfl rfl) (fun b107 hb107 => ?_)
                refine Ops.y rfl rfl rfl hst.ctx (Y.moveB rfl) ?_
                cases b107
                · replace hb107 := of_decide_eq_false hb107.symm
                  refine Ops.y rfl rfl rfl hst.ctx (Y.moveT rfl) ?_
                  refine Ops.y rfl rfl rfl hst.ctx (Y.moveT rfl) ?_
                  refine Ops.yb rfl rfl rfl hst.ctx (Y.neT rfl rfl) (fun b111 hb111 => ?_)
                  refine Ops.y rfl rfl rfl hst.ctx (Y.pick (.bool _) rfl rfl) ?_
                  refine Ops.done rfl ?_
                  cases b111
                  · replace hb111 := of_decide_eq_false hb111.symm
                    refine W.condF rfl rfl ?_
                    refine W.skip rfl ?_
                    refine W.seq rfl ?_
                    refine W.region rfl ?_
                    refine Ops.y rfl rfl rfl hst.ctx (Y.loadA 1 Try.isAgg28 Try.sizeOf28 rfl rfl rfl rfl) ?_
                    refine Ops.x rfl rfl rfl (X.storeS hst 2 Try.sizeOf28 rfl rfl (vs := (rdM q).cells A c) rfl rfl rfl (Nat.le_of_ble_eq_true rfl) (cs' := (rdM q).cells A c) rfl rfl ?_)
                    clear hst; intro w21 hst
                    refine Ops.y rfl rfl rfl hst.ctx (Y.assignI rfl) ?_
                    refine Ops.done rfl ?_
                    refine W.ret rfl ?_
                    refine ⟨_, Rslt.cellTmp Try.results19 rfl (res_cell (ms := (rdM q).cells A c) rfl (St.up3 hst)) rfl, ?_⟩
                    exact dec_done (rd_yes hll hp (Decidable.not_not.1 hb107) (Decidable.not_not.1 hb111)) (St.up3 hst).drop.swap.drop
                  · replace hb111 := of_decide_eq_true hb111.symm
                    refine W.condT rfl rfl ?_
                    refine W.seq rfl ?_
                    refine W.region rfl ?_
                    refine Ops.y rfl rfl rfl hst.ctx (bd28_ rfl) ?_
                    refine Ops.x rfl rfl rfl (X.storeS hst 2 Try.sizeOf28 rfl rfl (vs := zms) rfl rfl rfl (Nat.le_of_ble_eq_true rfl) (cs' := zms) rfl rfl ?_)
                    clear hst; intro w20 hst
                    refine Ops.y rfl rfl rfl hst.ctx (Y.assignI rfl) ?_
                    refine Ops.done rfl ?_
                    refine W.ret rfl ?_
                    refine ⟨_, Rslt.cellTmp Try.results19 rfl (res_cell (ms := zms) rfl (St.up3 hst)) rfl, ?_⟩
                    exact dec_fail (rd_no hll hp (fun h => hb111 h.2)) (St.drop (St.drop (St.drop hst)))
                · replace hb107 := of_decide_eq_true hb107.symm
                  refine Ops.no rfl rfl rfl ?_
                  refine Ops.no rfl rfl rfl ?_
                  refine Ops.no rfl rfl rfl ?_
                  refine Ops.y rfl rfl rfl hst.ctx (Y.pick (.bool _) rfl rfl) ?_
                  refine Ops.done rfl ?_
                  refine W.condT rfl rfl ?_
                  refine W.seq rfl ?_
                  refine W.region rfl ?_
                  refine Ops.y rfl rfl rfl hst.ctx (bd28_ rfl) ?_
                  refine Ops.x rfl rfl rfl (X.storeS hst 2 Try.sizeOf28 rfl rfl (vs := zms) rfl rfl rfl (Nat.le_of_ble_eq_true rfl) (cs' := zms) rfl rfl ?_)
                  clear hst; intro w20 hst
                  refine Ops.y rfl rfl rfl hst.ctx (Y.assignI rfl) ?_
                  refine Ops.done rfl ?_
                  refine W.ret rfl ?_
                  refine ⟨_, Rslt.cellTmp Try.results19 rfl (res_cell (ms := zms) rfl (St.up3 hst)) rfl, ?_⟩
                  exact dec_fail (rd_no hll hp (fun h => hb107 h.1)) (St.drop (St.drop (St.drop hst)))
              · replace hb82 := of_decide_eq_true hb82.symm
                refine W.condT rfl rfl ?_
                refine W.skip rfl ?_
                refine W.seq rfl ?_
                refine W.block rfl ?_
                have hk1 : k < (q.getD 3 0).toNat := by omega
                refine W.drawn rfl (by kernel_rfl) (Ctx _ _ (_) (_)) [14, 15, 16] (.op 0 2 (.op 1 0 (.op 2 2 (.op 3 2 (.op 4 2 (.op 5 2 (.op 7 2 (.op 8 2 (.op 9 2 (.op 10 2 (.op 6 1 (.op 11 1 (.op 12 2 (.op 13 1 (.op 14 1 (.op 15 1 (.op 16 1 .nil))))))))))))))))) rfl (by kernel_rfl) hst.drew.ctx ?_
                replace hst := hst.drew
                generalize World.drew _ = wd at hst ⊢
                first
                | refine Drw.ya rfl rfl rfl hst.ctx (Y.fieldAddr fa28_10 rfl) ?_
                | refine Drw.ya rfl rfl rfl hst.ctx (Y.fieldAddrP fa28_10 rfl) ?_
                refine Drw.y rfl rfl rfl hst.ctx (Y.load 1 Try.isAgg26 rfl rfl rfl) ?_
                refine Drw.ya rfl rfl rfl hst.ctx (Y.moveT rfl) ?_
                refine Drw.ya rfl rfl rfl hst.ctx (Y.moveI rfl) ?_
                refine Drw.ya rfl rfl rfl hst.ctx (Y.mulI rfl rfl (by omega)) ?_
                refine Drw.ya rfl rfl rfl hst.ctx (Y.addI rfl rfl (by omega)) ?_
                refine Drw.ya rfl rfl rfl hst.ctx (Y.moveT rfl) ?_
                refine Drw.ya rfl rfl rfl hst.ctx (Y.moveI rfl) ?_
                refine Drw.ya rfl rfl rfl hst.ctx (Y.mulI rfl rfl (by omega)) ?_
                refine Drw.ya rfl rfl rfl hst.ctx (Y.addI rfl rfl (by omega)) ?_
                refine Drw.x rfl rfl rfl (X.call cf33 rfl ?_)
                refine use_call (number_any q (9 + 2 * k) (by omega) (by omega) _ _ _ _ _ hst) rfl ?_; clear hst; rintro e w91 ⟨rfl, hst⟩; refine ⟨_, rfl, ⟨hst.ctx, ?_⟩⟩
                refine Drw.x rfl rfl rfl (X.call cf33 rfl ?_)
                refine use_call (number_any q (10 + 2 * k) (by omega) (by omega) _ _ _ _ _ hst) rfl ?_; clear hst; rintro e w96 ⟨rfl, hst⟩; refine ⟨_, rfl, ⟨hst.ctx, ?_⟩⟩
                refine Drw.ya rfl rfl rfl hst.ctx (bd45_0_1 rfl) ?_
                refine Drw.x rfl rfl rfl (X.lit1 hst Try.underlying26 Try.sizeOf45 Try.zeroValue45 (by rfl) (vs := lcs [(numAt q (9 + 2 * k), numAt q (10 + 2 * k))]) rfl (by rfl) ?_)
                clear hst; intro p98 w98 hst
                refine ⟨hst.ctx1, ?_⟩
                refine Drw.z rfl rfl rfl rfl (X.append hst 1 Try.underlying26 infoLeap rfl rfl rfl rfl rfl (Rds.ofCells 0 rfl 1 1) rfl (by simp [lcs, Value.oneCell']) (by unfold maxLen; omega) (by omega) ?_)
                clear hst; intro v99 w99 hst
                obtain ⟨A99, c99, rfl, -⟩ := rowR_shape (hst.res _ (List.Mem.tail _ (List.Mem.head _)))
                first
                | refine Drw.zy rfl rfl rfl rfl hst.ctx (Y.fieldAddr fa28_10 rfl) ?_
                | refine Drw.zy rfl rfl rfl rfl hst.ctx (Y.fieldAddrP fa28_10 rfl) ?_
                refine Drw.z rfl rfl rfl rfl (X.storeV hst 2 (.slice _ _ _) Try.sizeOf26 rfl rfl rfl rfl (Nat.le_of_ble_eq_true rfl) rfl rfl ?_)
                clear hst; intro w17 hst
                refine Drw.done ?_
                refine W.region rfl ?_
                refine Ops.y rfl rfl rfl hst.ctx (Y.moveI rfl) ?_
                refine Ops.y rfl rfl rfl hst.ctx (Y.addI rfl rfl (by omega)) ?_
                refine Ops.y rfl rfl rfl hst.ctx (Y.assignI rfl) ?_
                refine Ops.done rfl ?_
                refine ⟨k + 1, ⟨rfl, trivial⟩, ⟨rfl, rfl, rfl, rfl, trivial⟩, ⟨by omega, A99, c99, ?_⟩, by omega⟩
                rw [rdTab_snoc, lcs_append]
                exact hst.drop
          refine W.drawn rfl (by kernel_rfl) (Ctx _ _ (_) (_)) [14] (.op 0 0 (.op 1 0 (.op 2 0 (.op 3 0 (.op 4 0 (.op 5 0 (.op 6 0 (.op 8 0 (.op 10 0 (.alt 7 (.alt 9 (.alt 11 (.op 12 0 (.op 13 1 (.op 14 1 .nil))) (.op 13 1 (.op 11 1 (.op 12 0 (.op 14 1 .nil))))) (.op 13 1 (.op 9 1 (.op 11 1 (.op 12 0 (.op 14 1 .nil)))))) (.op 13 1 (.op 7 1 (.op 9 1 (.op 11 1 (.op 12 0 (.op 14 1 .nil)))))))))))))))) rfl (by kernel_rfl) hst.drew.ctx ?_
          replace hst := hst.drew
          generalize World.drew _ = wd at hst ⊢
          refine Drw.y rfl rfl rfl hst.ctx (Y.moveT rfl) ?_
          refine Drw.y rfl rfl rfl hst.ctx (Y.indexT Try.underlying9 (k := 0) rfl rfl rfl (by omega)) ?_
          refine Drw.y rfl rfl rfl hst.ctx (Y.byteInt Try.underlying3 Try.underlying5 rfl) ?_
          refine Drw.y rfl rfl rfl hst.ctx (Y.moveT rfl) ?_
          refine Drw.y rfl rfl rfl hst.ctx (Y.indexT Try.underlying9 (k := 1) rfl rfl rfl (by omega)) ?_
          refine Drw.y rfl rfl rfl hst.ctx (Y.byteInt Try.underlying3 Try.underlying5 rfl) ?_
          refine Drw.y rfl rfl rfl hst.ctx (Y.moveT rfl) ?_
          refine Drw.y rfl rfl rfl hst.ctx (Y.moveT rfl) ?_
          refine Drw.y rfl rfl rfl hst.ctx (Y.moveT rfl) ?_
          refine Drw.alts (Alts.more ?_ (Alts.one ?_))
          · refine One.x rfl rfl rfl (X.call cf33 rfl ?_)
            refine use_call (number_any q 2 (by omega) (by omega) _ _ _ _ _ hst) rfl ?_; clear hst; rintro e w43 ⟨rfl, hst⟩; refine ⟨_, rfl, ⟨hst.ctx, ?_⟩⟩
            refine Drw.alts (Alts.more ?_ (Alts.one ?_))
            · refine One.x rfl rfl rfl (X.call cf33 rfl ?_)
              refine use_call (number_any q 3 (by omega) (by omega) _ _ _ _ _ hst) rfl ?_; clear hst; rintro e w45 ⟨rfl, hst⟩; refine ⟨_, rfl, ⟨hst.ctx, ?_⟩⟩
              refine Drw.alts (Alts.more ?_ (Alts.one ?_))
              · refine One.x rfl rfl rfl (X.call cf33 rfl ?_)
                refine use_call (number_any q 6 (by omega) (by omega) _ _ _ _ _ hst) rfl ?_; clear hst; rintro e w47 ⟨rfl, hst⟩; refine ⟨_, rfl, ⟨hst.ctx, ?_⟩⟩
                refine Drw.y rfl rfl rfl hst.ctx (bd28_0_1_3_4_8 rfl) ?_
                refine Drw.x rfl rfl rfl (X.allocA hst Try.zeroValue28 ?_)
                clear hst; intro p6 w6 hst
                refine ⟨hst.ctx1, ?_⟩
                first
                | refine Drw.z rfl rfl rfl rfl (X.storeS hst 0 Try.sizeOf28 rfl rfl rfl rfl rfl (Nat.le_of_ble_eq_true rfl) rfl rfl ?_)
                | refine Drw.z rfl rfl rfl rfl (X.storeS hst 1 Try.sizeOf28 rfl rfl rfl rfl rfl (Nat.le_of_ble_eq_true rfl) rfl rfl ?_)
                | refine Drw.z rfl rfl rfl rfl (X.storeS hst 2 Try.sizeOf28 rfl rfl rfl rfl rfl (Nat.le_of_ble_eq_true rfl) rfl rfl ?_)
                clear hst; intro w8_14 hst
                try simp only [List.set_cons_zero, List.set_cons_succ, Nat.zero_add, Nat.reduceAdd, splice, List.take, List.drop, List.append_eq, List.nil_append, List.cons_append, List.length_cons, List.length_nil] at hst
                refine Drw.done ?_
                exact ⟨_, ⟨rfl, trivial⟩, ⟨rfl, rfl, rfl, trivial⟩, hst⟩
              · refine One.x rfl rfl rfl (X.allocA hst Try.zeroValue28 ?_)
                clear hst; intro p6 w6 hst
                refine ⟨hst.ctx1, ?_⟩
                refine Drw.x rfl rfl rfl (X.call cf33 rfl ?_)
                refine use_call (number_any q 6 (by omega) (by omega) _ _ _ _ _ hst) rfl ?_; clear hst; rintro e w47 ⟨rfl, hst⟩; refine ⟨_, rfl, ⟨hst.ctx1, ?_⟩⟩
                refine Drw.y rfl rfl rfl hst.ctx1 (bd28_0_1_3_4_8 rfl) ?_
                first
                | refine Drw.z rfl rfl rfl rfl (X.storeS hst 0 Try.sizeOf28 rfl rfl rfl rfl rfl (Nat.le_of_ble_eq_true rfl) rfl rfl ?_)
                | refine Drw.z rfl rfl rfl rfl (X.storeS hst 1 Try.sizeOf28 rfl rfl rfl rfl rfl (Nat.le_of_ble_eq_true rfl) rfl rfl ?_)
                | refine Drw.z rfl rfl rfl rfl (X.storeS hst 2 Try.sizeOf28 rfl rfl rfl rfl rfl (Nat.le_of_ble_eq_true rfl) rfl rfl ?_)
                clear hst; intro w8_14 hst
                try simp only [List.set_cons_zero, List.set_cons_succ, Nat.zero_add, Nat.reduceAdd, splice, List.take, List.drop, List.append_eq, List.nil_append, List.cons_append, List.length_cons, List.length_nil] at hst
                refine Drw.done ?_
                exact ⟨_, ⟨rfl, trivial⟩, ⟨rfl, rfl, rfl, trivial⟩, hst⟩
            · refine One.x rfl rfl rfl (X.allocA hst Try.zeroValue28 ?_)
              clear hst; intro p6 w6 hst
              refine ⟨hst.ctx1, ?_⟩
              refine Drw.x rfl rfl rfl (X.call cf33 rfl ?_)
              refine use_call (number_any q 3 (by omega) (by omega) _ _ _ _ _ hst) rfl ?_; clear hst; rintro e w45 ⟨rfl, hst⟩; refine ⟨_, rfl, ⟨hst.ctx1, ?_⟩⟩
              refine Drw.x rfl rfl rfl (X.call cf33 rfl ?_)
              refine use_call (number_any q 6 (by omega) (by omega) _ _ _ _ _ hst) rfl ?_; clear hst; rintro e w47 ⟨rfl, hst⟩; refine ⟨_, rfl, ⟨hst.ctx1, ?_⟩⟩
              refine Drw.y rfl rfl rfl hst.ctx1 (bd28_0_1_3_4_8 rfl) ?_
              first
              | refine Drw.z rfl rfl rfl rfl (X.storeS hst 0 Try.sizeOf28 rfl rfl rfl rfl rfl (Nat.le_of_ble_eq_true rfl) rfl rfl ?_)
              | refine Drw.z rfl rfl rfl rfl (X.storeS hst 1 Try.sizeOf28 rfl rfl rfl rfl rfl (Nat.le_of_ble_eq_true rfl) rfl rfl ?_)
              | refine Drw.z rfl rfl rfl rfl (X.storeS hst 2 Try.sizeOf28 rfl rfl rfl rfl rfl (Nat.le_of_ble_eq_true rfl) rfl rfl ?_)
              clear hst; intro w8_14 hst
              try simp only [List.set_cons_zero, List.set_cons_succ, Nat.zero_add, Nat.reduceAdd, splice, List.take, List.drop, List.append_eq, List.nil_append, List.cons_append, List.length_cons, List.length_nil] at hst
              refine Drw.done ?_
              exact ⟨_, ⟨rfl, trivial⟩, ⟨rfl, rfl, rfl, trivial⟩, hst⟩
          · refine One.x rfl rfl rfl (X.allocA hst Try.zeroValue28 ?_)
            clear hst; intro p6 w6 hst
            refine ⟨hst.ctx1, ?_⟩
            refine Drw.x rfl rfl rfl (X.call cf33 rfl ?_)
            refine use_call (number_any q 2 (by omega) (by omega) _ _ _ _ _ hst) rfl ?_; clear hst; rintro e w43 ⟨rfl, hst⟩; refine ⟨_, rfl, ⟨hst.ctx1, ?_⟩⟩
            refine Drw.x rfl rfl rfl (X.call cf33 rfl ?_)
            refine use_call (number_any q 3 (by omega) (by omega) _ _ _ _ _ hst) rfl ?_; clear hst; rintro e w45 ⟨rfl, hst⟩; refine ⟨_, rfl, ⟨hst.ctx1, ?_⟩⟩
            refine Drw.x rfl rfl rfl (X.call cf33 rfl ?_)
            refine use_call (number_any q 6 (by omega) (by omega) _ _ _ _ _ hst) rfl ?_; clear hst; rintro e w47 ⟨rfl, hst⟩; refine ⟨_, rfl, ⟨hst.ctx1, ?_⟩⟩
            refine Drw.y rfl rfl rfl hst.ctx1 (bd28_0_1_3_4_8 rfl) ?_
            first
            | refine Drw.z rfl rfl rfl rfl (X.storeS hst 0 Try.sizeOf28 rfl rfl rfl rfl rfl (Nat.le_of_ble_eq_true rfl) rfl rfl ?_)
            | refine Drw.z rfl rfl rfl rfl (X.storeS hst 1 Try.sizeOf28 rfl rfl rfl rfl rfl (Nat.le_of_ble_eq_true rfl) rfl rfl ?_)
            | refine Drw.z rfl rfl rfl rfl (X.storeS hst 2 Try.sizeOf28 rfl rfl rfl rfl rfl (Nat.le_of_ble_eq_true rfl) rfl rfl ?_)
            clear hst; intro w8_14 hst
            try simp only [List.set_cons_zero, List.set_cons_succ, Nat.zero_add, Nat.reduceAdd, splice, List.take, List.drop, List.append_eq, List.nil_append, List.cons_append, List.length_cons, List.length_nil] at hst
            refine Drw.done ?_
            exact ⟨_, ⟨rfl, trivial⟩, ⟨rfl, rfl, rfl, trivial⟩, hst⟩
        · replace hb33 := of_decide_eq_true hb33.symm
          refine W.condT rfl rfl ?_
          refine W.seq rfl ?_
          refine W.region rfl ?_
          refine Ops.y rfl rfl rfl hst.ctx (bd28_ rfl) ?_
          first
          | refine Ops.x rfl rfl rfl (X.storeS hst 0 Try.sizeOf28 rfl rfl rfl rfl rfl (Nat.le_of_ble_eq_true rfl) rfl rfl ?_)
          | refine Ops.x rfl rfl rfl (X.storeS hst 1 Try.sizeOf28 rfl rfl rfl rfl rfl (Nat.le_of_ble_eq_true rfl) rfl rfl ?_)
          clear hst; intro w7_1 hst
          try simp only [List.set_cons_zero, List.set_cons_succ, Nat.zero_add, Nat.reduceAdd, splice, List.take, List.drop, List.append_eq, List.nil_append, List.cons_append, List.length_cons, List.length_nil] at hst
          refine Ops.y rfl rfl rfl hst.ctx (Y.assignI rfl) ?_
          refine Ops.done rfl ?_
          refine W.ret rfl ?_
          refine ⟨_, Rslt.cellTmp Try.results19 rfl (res_cell (ms := zms) rfl (L := L) hst) rfl, ?_⟩
          exact dec_fail (decR_form hll hp (by unfold FormOk gb; omega)) (St.drop hst)
      · replace hb24 := of_decide_eq_true hb24.symm
        refine Ops.no rfl rfl rfl ?_
        refine Ops.no rfl rfl rfl ?_
        refine Ops.no rfl rfl rfl ?_
        refine Ops.no rfl rfl rfl ?_
        refine Ops.no rfl rfl rfl ?_
        refine Ops.no rfl rfl rfl ?_
        refine Ops.no rfl rfl rfl ?_
        refine Ops.no rfl rfl rfl ?_
        refine Ops.y rfl rfl rfl hst.ctx (Y.pick (.bool _) rfl rfl) ?_
        refine Ops.done rfl ?_
        refine W.condT rfl rfl ?_
        refine W.seq rfl ?_
        refine W.region rfl ?_
        refine Ops.y rfl rfl rfl hst.ctx (bd28_ rfl) ?_
        first
        | refine Ops.x rfl rfl rfl (X.storeS hst 0 Try.sizeOf28 rfl rfl rfl rfl rfl (Nat.le_of_ble_eq_true rfl) rfl rfl ?_)
        | refine Ops.x rfl rfl rfl (X.storeS hst 1 Try.sizeOf28 rfl rfl rfl rfl rfl (Nat.le_of_ble_eq_true rfl) rfl rfl ?_)
        clear hst; intro w7_1 hst
        try simp only [List.set_cons_zero, List.set_cons_succ, Nat.zero_add, Nat.reduceAdd, splice, List.take, List.drop, List.append_eq, List.nil_append, List.cons_append, List.length_cons, List.length_nil] at hst
        refine Ops.y rfl rfl rfl hst.ctx (Y.assignI rfl) ?_
        refine Ops.done rfl ?_
        refine W.ret rfl ?_
        refine ⟨_, Rslt.cellTmp Try.results19 rfl (res_cell (ms := zms) rfl (L := L) hst) rfl, ?_⟩
        exact dec_fail (decR_form hll hp (by unfold FormOk gb; omega)) (St.drop hst)
  · replace hb12 := of_decide_eq_true hb12.symm
    refine W.condT rfl rfl ?_
    refine W.seq rfl ?_
    refine W.region rfl ?_
    refine Ops.y rfl rfl rfl hst.ctx (bd28_ rfl) ?_
    first
    | refine Ops.x rfl rfl rfl (X.storeS hst 0 Try.sizeOf28 rfl rfl rfl rfl rfl (Nat.le_of_ble_eq_true rfl) rfl rfl ?_)
    | refine Ops.x rfl rfl rfl (X.storeS hst 1 Try.sizeOf28 rfl rfl rfl rfl rfl (Nat.le_of_ble_eq_true rfl) rfl rfl ?_)
    clear hst; intro w2_1 hst
    try simp only [List.set_cons_zero, List.set_cons_succ, Nat.zero_add, Nat.reduceAdd, splice, List.take, List.drop, List.append_eq, List.nil_append, List.cons_append, List.length_cons, List.length_nil] at hst
    refine Ops.y rfl rfl rfl hst.ctx (Y.assignI rfl) ?_
    refine Ops.done rfl ?_
    refine W.ret rfl ?_
    refine ⟨_, Rslt.cellTmp Try.results19 rfl (res_cell (ms := zms) rfl (L := L) hst) rfl, ?_⟩
    exact dec_fail (decR_long (by rw [str_sz] at hb12; omega)) (St.drop hst)
end Go.Proofs.Ytkbkgpedpaodlaa.W
