/- The walk of Decode. -/
import Derived.Test.YtkbkgpedpaodlaaWJ
set_option linter.unusedVariables false
set_option linter.unusedSimpArgs false
namespace Go.Proofs.Ytkbkgpedpaodlaa.W
open Go.RowKit Go.Proofs.Ytkbkgpedpaodlaa.K Go.Proofs.Ytkbkgpedpaodlaa.CM
def M.cells (m : M) (A : Option Addr) (cap : Nat) : List Value := [.int .i64 m.kind, .int .i64 m.from_, .int .i64 m.slo, .int .i64 m.shi, .int .i64 m.held, .int .i64 m.hops, .bool m.good, .bool m.ref, .int .i64 m.elo, .int .i64 m.ehi, .int .i64 m.pulse, .int .i64 m.time, .int .i64 m.num, .slice A m.tab.length cap]
def DPost (l : List UInt8) (w0 : World) (F0 : List Nat) (L G : List Res) (e : Ending) (w' : World) : Prop :=
  ∃ A cap, e = .returned (.tuple #[.agg ((decR l).1.cells A cap).toArray, .int .i64 (decR l).2]) ∧ St w0 F0 w' (rowR (.slice A (decR l).1.tab.length cap) 45 2 (decR l).1.tab.length (lcs (decR l).1.tab) :: L) G
theorem dec_fail {l : List UInt8} {er : Int} {w0 w' : World} {F0 : List Nat} {L G : List Res} (hd : decR l = (M0, er)) (hst : St w0 F0 w' L G) : DPost l w0 F0 L G (.returned (.tuple #[.agg zms.toArray, .int .i64 er])) w' := by
  refine ⟨none, 0, by rw [hd]; rfl, ?_⟩
  rw [hd]
  exact hst.nilRow 45 2
theorem decR_long {l : List UInt8} (h : 4096 < l.length) : decR l = (M0, 3) := by unfold decR; rw [if_pos h]
theorem decR_sum {l : List UInt8} (h : ¬ 4096 < l.length) (h2 : opn l = none) : decR l = (M0, 5) := by unfold decR; rw [if_neg h, h2]
theorem Y.byteInt {P : Program} {S : World → Prop} {ρ : Env} {ty t t' : TypeId} {x : Operand} {c : UInt8} (ht : P.underlying t' = some (.int .i64)) (hs : P.underlying t = some (.int .u8)) (hx : ev ρ x = .int .u8 (c.toNat : Int)) : Y P S ρ (.convert t t' x) ty (.int .i64 (c.toNat : Int)) := by
  have h := UInt8.toNat_lt c
  have e : IntKind.i64.wrap (c.toNat : Int) = (c.toNat : Int) := IntWalk.i64_in _ (by omega)
  have := Y.conv (S := S) (ty := ty) ht hs hx
  rwa [e] at this
theorem Y.and1 {P : Program} {S : World → Prop} {ρ : Env} {ty t t' : TypeId} {x : Operand} {c : UInt8} (hx : ev ρ x = .int .u8 (c.toNat : Int)) : Y P S ρ (.binOp .and t x (.const (.int .u8 1)) t') ty (.int .u8 (IntKind.u8.wrap (BitVec.ofInt IntKind.u8.bits (c.toNat : Int) &&& BitVec.ofInt IntKind.u8.bits 1).toNat)) := Y.and hx rfl
theorem Y.and2 {P : Program} {S : World → Prop} {ρ : Env} {ty t t' : TypeId} {x : Operand} {c : UInt8} (hx : ev ρ x = .int .u8 (c.toNat : Int)) : Y P S ρ (.binOp .and t x (.const (.int .u8 2)) t') ty (.int .u8 (IntKind.u8.wrap (BitVec.ofInt IntKind.u8.bits (c.toNat : Int) &&& BitVec.ofInt IntKind.u8.bits 2).toNat)) := Y.and hx rfl
theorem bit1_eq (n : Nat) (h : n ≤ 3) : decide (IntKind.u8.wrap (BitVec.ofInt IntKind.u8.bits (n : Int) &&& BitVec.ofInt IntKind.u8.bits 1).toNat = 1) = decide (n % 2 = 1) := by
  rcases (show n = 0 ∨ n = 1 ∨ n = 2 ∨ n = 3 by omega) with rfl | rfl | rfl | rfl <;> decide
theorem bit2_eq (n : Nat) (h : n ≤ 3) : decide (IntKind.u8.wrap (BitVec.ofInt IntKind.u8.bits (n : Int) &&& BitVec.ofInt IntKind.u8.bits 2).toNat = 2) = decide (n / 2 % 2 = 1) := by
  rcases (show n = 0 ∨ n = 1 ∨ n = 2 ∨ n = 3 by omega) with rfl | rfl | rfl | rfl <;> decide
theorem Y.bit1 {P : Program} {S : World → Prop} {ρ : Env} {ty t t' : TypeId} {x : Operand} {n : Nat} (h : n ≤ 3) (hx : ev ρ x = .int .u8 (IntKind.u8.wrap (BitVec.ofInt IntKind.u8.bits (n : Int) &&& BitVec.ofInt IntKind.u8.bits 1).toNat)) : Y P S ρ (.binOp .eql t x (.const (.int .u8 1)) t') ty (.bool (decide (n % 2 = 1))) := by
  rw [← bit1_eq n h]; exact Y.eql hx rfl
theorem Y.bit2 {P : Program} {S : World → Prop} {ρ : Env} {ty t t' : TypeId} {x : Operand} {n : Nat} (h : n ≤ 3) (hx : ev ρ x = .int .u8 (IntKind.u8.wrap (BitVec.ofInt IntKind.u8.bits (n : Int) &&& BitVec.ofInt IntKind.u8.bits 2).toNat)) : Y P S ρ (.binOp .eql t x (.const (.int .u8 2)) t') ty (.bool (decide (n / 2 % 2 = 1))) := by
  rw [← bit2_eq n h]; exact Y.eql hx rfl
theorem decR_some {l p : List UInt8} (h : ¬ 4096 < l.length) (h2 : opn l = some p) : decR l = if FormOk p then (if (rdM p).Ok then (rdM p, 0) else (M0, 4)) else (M0, 4) := by unfold decR; rw [if_neg h, h2]
theorem decR_form {l p : List UInt8} (h : ¬ 4096 < l.length) (h2 : opn l = some p) (h3 : ¬ FormOk p) : decR l = (M0, 4) := by rw [decR_some h h2, if_neg h3]
theorem decR_bad {l p : List UInt8} (h : ¬ 4096 < l.length) (h2 : opn l = some p) (h3 : ¬ (rdM p).Ok) : decR l = (M0, 4) := by
  rw [decR_some h h2]
  by_cases hf : FormOk p
  · rw [if_pos hf, if_neg h3]
  · rw [if_neg hf]
theorem decR_ok {l p : List UInt8} (h : ¬ 4096 < l.length) (h2 : opn l = some p) (h3 : FormOk p) (h4 : (rdM p).Ok) : decR l = (rdM p, 0) := by rw [decR_some h h2, if_pos h3, if_pos h4]
/-- The message ahead of its table's k-th entry. -/
def rdK (p : List UInt8) (k : Nat) : M := { rdM p with tab := rdTab p k }
theorem fk9 (q : List UInt8) : fk [.int .i64 ((q.getD 0 0).toNat : Int), .int .i64 ((q.getD 1 0).toNat : Int), .int .i64 0, .int .i64 0, .int .i64 0, .int .i64 0, .bool (decide ((q.getD 2 0).toNat % 2 = 1)), .bool (decide ((q.getD 2 0).toNat / 2 % 2 = 1)), .int .i64 0, .int .i64 0, .int .i64 0, .int .i64 0, .int .i64 0, .slice none 0 0] [2, 3, 4, 5, 8, 9, 10, 11, 12] (q.drop 4) 9 = (rdK q 0).cells none 0 := by
  simp [fk, M.cells, rdK, rdM, numAt, List.drop_drop, gb, rdTab]
theorem rd8_in (l : List UInt8) : In64 (rd8 l) := by
  unfold rd8 In64
  have := IntKind.wrap_i64 (rdn l : Int)
  omega
theorem rdTab_in (q : List UInt8) (k : Nat) : ∀ x ∈ rdTab q k, In64 x.1 ∧ In64 x.2 := by
  intro x hx
  simp only [rdTab, List.mem_map] at hx
  obtain ⟨i, _, rfl⟩ := hx
  exact ⟨rd8_in _, rd8_in _⟩
theorem dec_done {l q : List UInt8} {A : Option Addr} {c : Nat} {w0 w' : World} {F0 : List Nat} {L G : List Res} (hd : decR l = (rdM q, 0)) (hst : St w0 F0 w' (rowR (.slice A (rdM q).tab.length c) 45 2 (rdM q).tab.length (lcs (rdM q).tab) :: L) G) : DPost l w0 F0 L G (.returned (.tuple #[.agg ((rdM q).cells A c).toArray, .int .i64 0])) w' := by
  refine ⟨A, c, by rw [hd], ?_⟩
  rw [hd]
  exact hst
def cellsK (q : List UInt8) (A : Option Addr) (k c : Nat) : List Value := [.int .i64 (rdM q).kind, .int .i64 (rdM q).from_, .int .i64 (rdM q).slo, .int .i64 (rdM q).shi, .int .i64 (rdM q).held, .int .i64 (rdM q).hops, .bool (rdM q).good, .bool (rdM q).ref, .int .i64 (rdM q).elo, .int .i64 (rdM q).ehi, .int .i64 (rdM q).pulse, .int .i64 (rdM q).time, .int .i64 (rdM q).num, .slice A k c]
theorem rdTab_length (q : List UInt8) (k : Nat) : (rdTab q k).length = k := by simp [rdTab]
theorem rdTab_snoc (q : List UInt8) (k : Nat) : rdTab q (k + 1) = rdTab q k ++ [(numAt q (9 + 2 * k), numAt q (10 + 2 * k))] := by simp [rdTab, List.range_succ]
theorem infoLeap : (Try.prog.info? 45).map (fun i => (i.zero, i.size, i.bytes)) = some (some (.agg #[.int .i64 0, .int .i64 0]), 2, 16) := by kernel_rfl
theorem fk2 (q : List UInt8) (k : Nat) : fk [.int .i64 0, .int .i64 0] [0, 1] (q.drop (76 + 16 * k)) 2 = lcs [(numAt q (9 + 2 * k), numAt q (10 + 2 * k))] := by
  simp [fk, numAt, List.drop_drop, lcs]
  constructor <;> congr 3 <;> omega
theorem bd28_0_1_5_6 {S ρ ty} {parts : Array (Nat × Operand)} {x0 : Int} {x1 : Int} {x5 : Bool} {x6 : Bool} (hp : (parts.toList.map fun x => (x.1, ev ρ x.2)) = [(0, Value.int .i64 x0), (1, Value.int .i64 x1), (5, Value.bool x5), (6, Value.bool x6)]) : Y Try.prog S ρ (.build 28 parts) ty (.agg #[Value.int .i64 x0, Value.int .i64 x1, Value.int .i64 0, Value.int .i64 0, Value.int .i64 0, Value.int .i64 0, Value.bool x5, Value.bool x6, Value.int .i64 0, Value.int .i64 0, Value.int .i64 0, Value.int .i64 0, Value.int .i64 0, Value.slice none 0 0]) :=
  Y.build hp fun w => by simp [Instr.build, go_sem]
theorem bd45_ {S ρ ty} {parts : Array (Nat × Operand)}  (hp : (parts.toList.map fun x => (x.1, ev ρ x.2)) = []) : Y Try.prog S ρ (.build 45 parts) ty (.agg #[Value.int .i64 0, Value.int .i64 0]) :=
  Y.build hp fun w => by simp [Instr.build, go_sem]
theorem bd64_0 {S ρ ty} {parts : Array (Nat × Operand)} {x0a : Option Addr} {x0l x0c : Nat} (hp : (parts.toList.map fun x => (x.1, ev ρ x.2)) = [(0, Value.slice x0a x0l x0c)]) : Y Try.prog S ρ (.build 64 parts) ty (.agg #[Value.slice x0a x0l x0c]) :=
  Y.build hp fun w => by simp [Instr.build, go_sem]
theorem cf29 : ∀ args w, (callFunc 29 args).run Try.prog w = .ok (.enter 29 args) w := fun _ _ => by simp [go_sem]
theorem cf30 : ∀ args w, (callFunc 30 args).run Try.prog w = .ok (.enter 30 args) w := fun _ _ => by simp [go_sem]
theorem cf31 : ∀ args w, (callFunc 31 args).run Try.prog w = .ok (.enter 31 args) w := fun _ _ => by simp [go_sem]

set_option maxHeartbeats 4000000 in
theorem Decode_any (l : List UInt8) (w0 w : World) (F0 : List Nat) (L G : List Res) (hst : St w0 F0 w L G) (hl : l.length ≤ 1000000) :
    Calls Try.prog 18 #[.string (str l)] w (DPost l w0 F0 L G) := by
  refine W.funcD (args := [_]) Try.func18 rfl Try.ntmps18 rfl rfl ?_
  refine W.region rfl ?_
  refine Ops.x rfl rfl rfl (X.allocA hst Try.zeroValue28 ?_)
  clear hst; intro p2 w2 hst
  refine Ops.x rfl rfl rfl (X.alloc1 hst Try.zeroValue32 rfl ?_)
  clear hst; intro p3 w3 hst
  refine Ops.done rfl ?_
  refine ⟨rfl, ?_⟩
  refine DF.go (m := 4) (cs := [.pointer _, .pointer _]) rfl rfl rfl rfl rfl rfl rfl ?_
  replace hst := hst.swap
  refine W.seq rfl ?_
  refine W.region rfl ?_
  refine Ops.y rfl rfl rfl hst.ctx (Y.moveT rfl) ?_
  refine Ops.y rfl rfl rfl hst.ctx (Y.lenT Try.underlying9 rfl) ?_
  refine Ops.yb rfl rfl rfl hst.ctx (Y.leq rfl rfl) (fun b11 hb11 => ?_)
  cases b11
  · replace hb11 := of_decide_eq_false hb11.symm
    refine Ops.xp rfl rfl (XP.call cf29 rfl ?_)
    refine use_call (must_F _ _) rfl ?_; rintro e w' ⟨rfl, rfl⟩; refine ⟨_, rfl, ?_⟩
    exact dec_panic 3 rfl hst rfl rfl (fun w' hst => dec_fail (decR_long (by rw [str_sz] at hb11; omega)) hst)
  · replace hb11 := of_decide_eq_true hb11.symm
    refine Ops.x rfl rfl rfl (X.call cf29 rfl ?_)
    refine use_call (must_T _ _) rfl ?_; rintro e w' ⟨rfl, rfl⟩; refine ⟨_, rfl, ?_⟩
    refine Ops.done rfl ?_
    refine W.seq rfl ?_
    refine W.region rfl ?_
    refine Ops.y rfl rfl rfl hst.ctx (Y.moveT rfl) ?_
    refine Ops.x rfl rfl rfl (X.bytes hst Try.underlying9 Try.underlying41 Try.underlying5 rfl ?_)
    clear hst; intro p15 m15 w15 hst
    refine Ops.x rfl rfl rfl (X.call cf30 rfl ?_)
    refine use_call (open_any _ l _ _ _ _ _ hst (Rds.front 0 rfl (by omega) (bytes_front l m15)) hl) rfl ?_; clear hst; rintro e w4 ⟨u, b16, rfl, hb16, hst⟩
    generalize hq : (opn l).getD [] = q at hst
    obtain ⟨Au, cu, rfl, hcu⟩ := rowR_shape (hst.res _ (List.Mem.head _))
    refine ⟨_, rfl, ?_⟩
    replace hst := hst.swap.drop.toFact
    have hrq : ∀ {w : World} {L' : List Res}, St w0 F0 w L' (rowR (.slice Au q.length cu) 5 1 q.length (bvs q) :: G) → Sl w (.slice Au q.length cu) q.length (bvs q) := fun h => (Rds.rowG 0 rfl).sl h
    refine Ops.y rfl rfl rfl hst.ctx (Y.moveU rfl) ?_
    refine Ops.y rfl rfl rfl hst.ctx (Y.extract rfl rfl) ?_
    refine Ops.y rfl rfl rfl hst.ctx (Y.extract rfl rfl) ?_
    refine Ops.y rfl rfl rfl hst.ctx (Y.assignS rfl) ?_
    refine Ops.y rfl rfl rfl hst.ctx (Y.assignB rfl) ?_
    refine Ops.done rfl ?_
    refine W.seq rfl ?_
    refine W.region rfl ?_
    refine Ops.y rfl rfl rfl hst.ctx (Y.moveB rfl) ?_
    cases b16
    · replace hb16 := of_decide_eq_false hb16.symm
      refine Ops.xp rfl rfl (XP.call cf29 rfl ?_)
      refine use_call (must_F _ _) rfl ?_; rintro e w' ⟨rfl, rfl⟩; refine ⟨_, rfl, ?_⟩
      exact dec_panic 5 rfl hst rfl rfl (fun w' hst => dec_fail (decR_sum (by rw [str_sz] at hb11; omega) (by simpa using hb16)) hst.forget)
    · replace hb16 := of_decide_eq_true hb16.symm
      refine Ops.x rfl rfl rfl (X.call cf29 rfl ?_)
      refine use_call (must_T _ _) rfl ?_; rintro e w' ⟨rfl, rfl⟩; refine ⟨_, rfl, ?_⟩
      refine Ops.done rfl ?_
      refine W.seq rfl ?_
      have hll : ¬ 4096 < l.length := by rw [str_sz] at hb11; omega
      have hp : opn l = some q := by
        rw [← hq]; cases e : opn l with
        | none => exact absurd e hb16
        | some p => rfl
      have hb2 := UInt8.toNat_lt (q.getD 2 0)
      have hb3 := UInt8.toNat_lt (q.getD 3 0)
      refine W.region rfl ?_
      refine Ops.y rfl rfl rfl hst.ctx (Y.moveS rfl) ?_
      refine Ops.y rfl rfl rfl hst.ctx (Y.lenS Try.underlying41 rfl) ?_
      refine Ops.yb rfl rfl rfl hst.ctx (Y.geq rfl rfl) (fun b23 hb23 => ?_)
      refine Ops.y rfl rfl rfl hst.ctx (Y.moveB rfl) ?_
      cases b23
      · replace hb23 := of_decide_eq_false hb23.symm
        refine Ops.no rfl rfl rfl ?_
        refine Ops.no rfl rfl rfl ?_
        refine Ops.no rfl rfl rfl ?_
        refine Ops.no rfl rfl rfl ?_
        refine Ops.no rfl rfl rfl ?_
        refine Ops.no rfl rfl rfl ?_
        refine Ops.no rfl rfl rfl ?_
        refine Ops.no rfl rfl rfl ?_
        refine Ops.no rfl rfl rfl ?_
        refine Ops.y rfl rfl rfl hst.ctx (Y.pick (.bool _) rfl rfl) ?_
        refine Ops.y rfl rfl rfl hst.ctx (Y.moveB rfl) ?_
        refine Ops.no rfl rfl rfl ?_
        refine Ops.no rfl rfl rfl ?_
        refine Ops.no rfl rfl rfl ?_
        refine Ops.no rfl rfl rfl ?_
        refine Ops.y rfl rfl rfl hst.ctx (Y.pick (.bool _) rfl rfl) ?_
        refine Ops.xp rfl rfl (XP.call cf29 rfl ?_)
        refine use_call (must_F _ _) rfl ?_; rintro e w' ⟨rfl, rfl⟩; refine ⟨_, rfl, ?_⟩
        exact dec_panic 4 rfl hst rfl rfl (fun w' hst => dec_fail (decR_form hll hp (by unfold FormOk gb; omega)) hst.forget)
      · replace hb23 := of_decide_eq_true hb23.symm
        refine Ops.y rfl rfl rfl hst.ctx (Y.moveS rfl) ?_
        refine Ops.y rfl rfl rfl hst.ctx (Y.lenS Try.underlying41 rfl) ?_
        refine Ops.y rfl rfl rfl hst.ctx (Y.moveS rfl) ?_
        refine Ops.y rfl rfl rfl hst.ctx (Y.indexAddr Try.underlying41 Try.sizeOf5 rfl rfl ((hrq hst).ne (by rw [bvs_length]; omega)) (by omega)) ?_
        refine Ops.y rfl rfl rfl hst.ctx (Y.loadSl Try.isAgg5 rfl (Rds.rowG 0 rfl) (bvs_get (k := 3) (by omega))) ?_
        refine Ops.y rfl rfl rfl hst.ctx (Y.byteInt Try.underlying3 Try.underlying5 rfl) ?_
        refine Ops.y rfl rfl rfl hst.ctx (Y.mulI rfl rfl (by omega)) ?_
        refine Ops.y rfl rfl rfl hst.ctx (Y.addI rfl rfl (by omega)) ?_
        refine Ops.yb rfl rfl rfl hst.ctx (Y.eql rfl rfl) (fun b33 hb33 => ?_)
        refine Ops.y rfl rfl rfl hst.ctx (Y.pick (.bool _) rfl rfl) ?_
        refine Ops.y rfl rfl rfl hst.ctx (Y.moveB rfl) ?_
        cases b33
        · replace hb33 := of_decide_eq_false hb33.symm
          refine Ops.no rfl rfl rfl ?_
          refine Ops.no rfl rfl rfl ?_
          refine Ops.no rfl rfl rfl ?_
          refine Ops.no rfl rfl rfl ?_
          refine Ops.y rfl rfl rfl hst.ctx (Y.pick (.bool _) rfl rfl) ?_
          refine Ops.xp rfl rfl (XP.call cf29 rfl ?_)
          refine use_call (must_F _ _) rfl ?_; rintro e w' ⟨rfl, rfl⟩; refine ⟨_, rfl, ?_⟩
          exact dec_panic 4 rfl hst rfl rfl (fun w' hst => dec_fail (decR_form hll hp (by unfold FormOk gb; omega)) hst.forget)
        · replace hb33 := of_decide_eq_true hb33.symm
          refine Ops.y rfl rfl rfl hst.ctx (Y.moveS rfl) ?_
          refine Ops.y rfl rfl rfl hst.ctx (Y.indexAddr Try.underlying41 Try.sizeOf5 rfl rfl ((hrq hst).ne (by rw [bvs_length]; omega)) (by omega)) ?_
          refine Ops.y rfl rfl rfl hst.ctx (Y.loadSl Try.isAgg5 rfl (Rds.rowG 0 rfl) (bvs_get (k := 2) (by omega))) ?_
          refine Ops.yb rfl rfl rfl hst.ctx (Y.leq rfl rfl) (fun b39 hb39 => ?_)
          refine Ops.y rfl rfl rfl hst.ctx (Y.pick (.bool _) rfl rfl) ?_
          cases b39
          · replace hb39 := of_decide_eq_false hb39.symm
            refine Ops.xp rfl rfl (XP.call cf29 rfl ?_)
            refine use_call (must_F _ _) rfl ?_; rintro e w' ⟨rfl, rfl⟩; refine ⟨_, rfl, ?_⟩
            exact dec_panic 4 rfl hst rfl rfl (fun w' hst => dec_fail (decR_form hll hp (by unfold FormOk gb; omega)) hst.forget)
          · replace hb39 := of_decide_eq_true hb39.symm
            refine Ops.x rfl rfl rfl (X.call cf29 rfl ?_)
            refine use_call (must_T _ _) rfl ?_; rintro e w' ⟨rfl, rfl⟩; refine ⟨_, rfl, ?_⟩
            refine Ops.done rfl ?_
            refine W.seq rfl ?_
            have hq2 : (q.getD 2 0).toNat ≤ 3 := by omega
            have hform : FormOk q := by unfold FormOk gb; omega
            refine W.drawn rfl (by kernel_rfl) (Ctx _ _ (_) (_)) [19] (.op 0 0 (.op 1 0 (.op 2 0 (.op 3 0 (.op 4 0 (.op 5 0 (.op 6 0 (.op 7 0 (.op 8 0 (.op 9 0 (.op 10 0 (.op 11 0 (.op 12 0 (.op 13 0 (.op 14 0 (.op 15 0 (.op 16 0 (.op 17 0 (.op 18 0 (.op 19 1 .nil)))))))))))))))))))) rfl (by kernel_rfl) hst.drew.ctx ?_
            replace hst := hst.drew
            generalize World.drew _ = wd at hst ⊢
            refine Drw.y rfl rfl rfl hst.ctx (Y.moveS rfl) ?_
            refine Drw.y rfl rfl rfl hst.ctx (Y.indexAddr Try.underlying41 Try.sizeOf5 rfl rfl ((hrq hst).ne (by rw [bvs_length]; omega)) (by omega)) ?_
            refine Drw.y rfl rfl rfl hst.ctx (Y.loadSl Try.isAgg5 rfl (Rds.rowG 0 rfl) (bvs_get (k := 0) (by omega))) ?_
            refine Drw.y rfl rfl rfl hst.ctx (Y.byteInt Try.underlying3 Try.underlying5 rfl) ?_
            refine Drw.y rfl rfl rfl hst.ctx (Y.moveS rfl) ?_
            refine Drw.y rfl rfl rfl hst.ctx (Y.indexAddr Try.underlying41 Try.sizeOf5 rfl rfl ((hrq hst).ne (by rw [bvs_length]; omega)) (by omega)) ?_
            refine Drw.y rfl rfl rfl hst.ctx (Y.loadSl Try.isAgg5 rfl (Rds.rowG 0 rfl) (bvs_get (k := 1) (by omega))) ?_
            refine Drw.y rfl rfl rfl hst.ctx (Y.byteInt Try.underlying3 Try.underlying5 rfl) ?_
            refine Drw.y rfl rfl rfl hst.ctx (Y.moveS rfl) ?_
            refine Drw.y rfl rfl rfl hst.ctx (Y.indexAddr Try.underlying41 Try.sizeOf5 rfl rfl ((hrq hst).ne (by rw [bvs_length]; omega)) (by omega)) ?_
            refine Drw.y rfl rfl rfl hst.ctx (Y.loadSl Try.isAgg5 rfl (Rds.rowG 0 rfl) (bvs_get (k := 2) (by omega))) ?_
            refine Drw.y rfl rfl rfl hst.ctx (Y.and1 rfl) ?_
            refine Drw.y rfl rfl rfl hst.ctx (Y.bit1 hq2 rfl) ?_
            refine Drw.y rfl rfl rfl hst.ctx (Y.moveS rfl) ?_
            refine Drw.y rfl rfl rfl hst.ctx (Y.indexAddr Try.underlying41 Try.sizeOf5 rfl rfl ((hrq hst).ne (by rw [bvs_length]; omega)) (by omega)) ?_
            refine Drw.y rfl rfl rfl hst.ctx (Y.loadSl Try.isAgg5 rfl (Rds.rowG 0 rfl) (bvs_get (k := 2) (by omega))) ?_
            refine Drw.y rfl rfl rfl hst.ctx (Y.and2 rfl) ?_
            refine Drw.y rfl rfl rfl hst.ctx (Y.bit2 hq2 rfl) ?_
            refine Drw.y rfl rfl rfl hst.ctx (bd28_0_1_5_6 rfl) ?_
            refine Drw.z rfl rfl rfl rfl (X.storeS hst 0 Try.sizeOf28 rfl rfl (vs := [.int .i64 ((q.getD 0 0).toNat : Int), .int .i64 ((q.getD 1 0).toNat : Int), .int .i64 0, .int .i64 0, .int .i64 0, .int .i64 0, .bool (decide ((q.getD 2 0).toNat % 2 = 1)), .bool (decide ((q.getD 2 0).toNat / 2 % 2 = 1)), .int .i64 0, .int .i64 0, .int .i64 0, .int .i64 0, .int .i64 0, .slice none 0 0]) rfl rfl rfl (Nat.le_of_ble_eq_true rfl) rfl rfl ?_)
            clear hst; intro w6 hst
            replace hst : St w0 F0 _ (cellsR p2 [.int .i64 ((q.getD 0 0).toNat : Int), .int .i64 ((q.getD 1 0).toNat : Int), .int .i64 0, .int .i64 0, .int .i64 0, .int .i64 0, .bool (decide ((q.getD 2 0).toNat % 2 = 1)), .bool (decide ((q.getD 2 0).toNat / 2 % 2 = 1)), .int .i64 0, .int .i64 0, .int .i64 0, .int .i64 0, .int .i64 0, .slice none 0 0] 28 :: cellsR p3 [.int .i64 0] 32 :: L) (rowR (.slice Au q.length cu) 5 1 q.length (bvs q) :: G) := hst
            refine Drw.done ?_
            refine W.seq rfl ?_
            refine W.region rfl ?_
            refine Ops.y rfl rfl rfl hst.ctx (Y.moveS rfl) ?_
            refine Ops.y rfl rfl rfl hst.ctx (Y.sliceLo Try.underlying41 Try.sizeOf5 rfl rfl (m := 4) rfl (by omega)) ?_
            refine Ops.y rfl rfl rfl hst.ctx (bd64_0 rfl) ?_
            refine Ops.x rfl rfl rfl (X.boxA hst rfl ?_)
            clear hst; intro p64 w64 hst
            refine Ops.y rfl rfl rfl hst.ctx (Y.assignP rfl) ?_
            refine Ops.done rfl ?_
            refine W.seq rfl ?_
            refine W.region rfl ?_
            refine Ops.y rfl rfl rfl hst.ctx (Y.moveP rfl) ?_
            first
            | refine Ops.y rfl rfl rfl hst.ctx (Y.fieldAddr fa28_2 rfl) ?_
            | refine Ops.y rfl rfl rfl hst.ctx (Y.fieldAddrP fa28_2 rfl) ?_
            first
            | refine Ops.y rfl rfl rfl hst.ctx (Y.fieldAddr fa23_0 rfl) ?_
            | refine Ops.y rfl rfl rfl hst.ctx (Y.fieldAddrP fa23_0 rfl) ?_
            first
            | refine Ops.y rfl rfl rfl hst.ctx (Y.fieldAddr fa28_2 rfl) ?_
            | refine Ops.y rfl rfl rfl hst.ctx (Y.fieldAddrP fa28_2 rfl) ?_
            first
            | refine Ops.y rfl rfl rfl hst.ctx (Y.fieldAddr fa23_1 rfl) ?_
            | refine Ops.y rfl rfl rfl hst.ctx (Y.fieldAddrP fa23_1 rfl) ?_
            first
            | refine Ops.y rfl rfl rfl hst.ctx (Y.fieldAddr fa28_3 rfl) ?_
            | refine Ops.y rfl rfl rfl hst.ctx (Y.fieldAddrP fa28_3 rfl) ?_
            first
            | refine Ops.y rfl rfl rfl hst.ctx (Y.fieldAddr fa28_4 rfl) ?_
            | refine Ops.y rfl rfl rfl hst.ctx (Y.fieldAddrP fa28_4 rfl) ?_
            first
            | refine Ops.y rfl rfl rfl hst.ctx (Y.fieldAddr fa28_7 rfl) ?_
            | refine Ops.y rfl rfl rfl hst.ctx (Y.fieldAddrP fa28_7 rfl) ?_
            first
            | refine Ops.y rfl rfl rfl hst.ctx (Y.fieldAddr fa23_0 rfl) ?_
            | refine Ops.y rfl rfl rfl hst.ctx (Y.fieldAddrP fa23_0 rfl) ?_
            first
            | refine Ops.y rfl rfl rfl hst.ctx (Y.fieldAddr fa28_7 rfl) ?_
            | refine Ops.y rfl rfl rfl hst.ctx (Y.fieldAddrP fa28_7 rfl) ?_
            first
            | refine Ops.y rfl rfl rfl hst.ctx (Y.fieldAddr fa23_1 rfl) ?_
            | refine Ops.y rfl rfl rfl hst.ctx (Y.fieldAddrP fa23_1 rfl) ?_
            first
            | refine Ops.y rfl rfl rfl hst.ctx (Y.fieldAddr fa28_8 rfl) ?_
            | refine Ops.y rfl rfl rfl hst.ctx (Y.fieldAddrP fa28_8 rfl) ?_
            first
            | refine Ops.y rfl rfl rfl hst.ctx (Y.fieldAddr fa28_9 rfl) ?_
            | refine Ops.y rfl rfl rfl hst.ctx (Y.fieldAddrP fa28_9 rfl) ?_
            first
            | refine Ops.y rfl rfl rfl hst.ctx (Y.fieldAddr fa25_0 rfl) ?_
            | refine Ops.y rfl rfl rfl hst.ctx (Y.fieldAddrP fa25_0 rfl) ?_
            first
            | refine Ops.y rfl rfl rfl hst.ctx (Y.fieldAddr fa28_9 rfl) ?_
            | refine Ops.y rfl rfl rfl hst.ctx (Y.fieldAddrP fa28_9 rfl) ?_
            first
            | refine Ops.y rfl rfl rfl hst.ctx (Y.fieldAddr fa25_1 rfl) ?_
            | refine Ops.y rfl rfl rfl hst.ctx (Y.fieldAddrP fa25_1 rfl) ?_
            refine Ops.x rfl rfl rfl (X.lits hst Try.underlying75 Try.sizeOf66 Try.zeroValue66 (by rfl) (by rfl) (by rfl) [.pointer _, .pointer _, .pointer _, .pointer _, .pointer _, .pointer _, .pointer _, .pointer _, .pointer _] (by rfl) (by rfl) ?_)
            clear hst; intro p81 w81 hst
            have hl4 : (q.drop 4).length = q.length - 4 := List.length_drop ..
            rw [← hl4] at hst
            have hup := hst.up3.up3
            have hrs : Rds [] (rowR (.slice Au q.length cu) 5 1 q.length (bvs q) :: G) (.slice (resl Au cu 4 1) (q.drop 4).length (cu - 4)) (q.drop 4).length (bvs (q.drop 4)) := by
              have h := (Rds.rowG 0 rfl : Rds [] (rowR (.slice Au q.length cu) 5 1 q.length (bvs q) :: G) (.slice Au q.length cu) q.length (bvs q)).dropN (size := 1) (k := 4) (by rw [bvs_length, Nat.mul_one]) (by omega)
              rw [hl4]
              simpa [bvs, List.map_drop] using h
            refine Ops.x rfl rfl rfl (X.call cf31 rfl ?_)
            refine use_call (rnums_any p64 p2 [2, 3, 4, 5, 8, 9, 10, 11, 12] _ _ (q.drop 4) _ _ _ _ _ _ _ _ _ hup hrs (Rds.ofCells 0 rfl 9 9) (by simp; omega) (by omega) (by simp)) rfl ?_
            clear hst hup hrs; rintro e w8 ⟨rfl, A8, c8, hs8, hst⟩; refine ⟨_, rfl, ?_⟩
            refine Ops.done rfl ?_
            refine W.seq rfl ?_
            refine W.seq rfl ?_
            replace hst := hst.up3.drop
            rw [show ([2, 3, 4, 5, 8, 9, 10, 11, 12] : List Nat).length = 9 from rfl] at hst hs8
            rw [fk9] at hst
            replace hst := hst.nilRow 45 2
            refine W.region rfl ?_
            refine Ops.y rfl rfl rfl hst.ctx (Y.moveS rfl) ?_
            refine Ops.y rfl rfl rfl hst.ctx (Y.indexAddr Try.underlying41 Try.sizeOf5 rfl rfl ((hrq hst).ne (by rw [bvs_length]; omega)) (by omega)) ?_
            refine Ops.y rfl rfl rfl hst.ctx (Y.loadSl Try.isAgg5 rfl (Rds.rowG 0 rfl) (bvs_get (k := 3) (by omega))) ?_
            refine Ops.y rfl rfl rfl hst.ctx (Y.byteInt Try.underlying3 Try.underlying5 rfl) ?_
            refine Ops.y rfl rfl rfl hst.ctx (Y.moveI rfl) ?_
            refine Ops.done rfl ?_
            refine W.block rfl ?_
            refine W.loop (γ := Nat) [(2, .pointer _), (3, .pointer _), (6, .pointer _), (86, .int _ _)] (fun k => [(87, .int .i64 (k : Int))]) (fun k w => k ≤ (q.getD 3 0).toNat ∧ ∃ A c Ar cr, Rds [] (rowR (.slice Au q.length cu) 5 1 q.length (bvs q) :: G) (.slice Ar (q.drop (76 + 16 * k)).length cr) (q.drop (76 + 16 * k)).length (bvs (q.drop (76 + 16 * k))) ∧ St w0 F0 w (rowR (.slice A k c) 45 2 k (lcs (rdTab q k)) :: cellsR p64 [.slice Ar (q.drop (76 + 16 * k)).length cr] 64 :: cellsR p2 (cellsK q A k c) 28 :: cellsR p3 [.int .i64 0] 32 :: L) (rowR (.slice Au q.length cu) 5 1 q.length (bvs q) :: G)) (fun k => (q.getD 3 0).toNat - k) (0) rfl ⟨rfl, rfl, rfl, rfl, trivial⟩ ?_ ?_ ?_
            · exact ⟨rfl, trivial⟩
            · rw [List.drop_drop] at hs8 hst
              exact ⟨by omega, none, 0, A8, c8, hs8, hst⟩
            · clear hst hs8; rintro k j w9 ⟨hk, A, c, Ar, cr, hs9, hst⟩
              refine W.seq rfl ?_
              refine W.region rfl ?_
              refine Ops.yb rfl rfl rfl hst.ctx (Y.lss rfl rfl) (fun b88 hb88 => ?_)
              refine Ops.done rfl ?_
              refine W.seq rfl ?_
              cases b88
              · replace hb88 := of_decide_eq_false hb88.symm
                refine W.condF rfl rfl ?_
                refine W.exit rfl ?_
                refine W.seq rfl ?_
                have hkn : k = (q.getD 3 0).toNat := by omega
                have et : (rdM q).tab = rdTab q k := by rw [hkn]; rfl
                have el : (rdM q).tab.length = k := by rw [et, rdTab_length]
                have e1 : cellsK q A k c = (rdM q).cells A c := by unfold cellsK M.cells; rw [el]
                rw [e1, ← et] at hst
                have e2 : rowR (.slice A k c) 45 2 k (lcs (rdM q).tab) = rowR (.slice A (rdM q).tab.length c) 45 2 (rdM q).tab.length (lcs (rdM q).tab) := by rw [el]
                rw [e2] at hst
                refine W.region rfl ?_
                refine Ops.y rfl rfl rfl hst.ctx (Y.loadA 2 Try.isAgg28 Try.sizeOf28 rfl rfl rfl rfl) ?_
                refine Ops.x rfl rfl rfl (X.call cf10 rfl ?_)
                refine use_call (good_any _ _ _ _ _ _ _ _ _ _ _ _ _ (rdM q).tab _ _ _ _ _ _ _ hst (Rds.rowL 0 rfl) (by omega) (by rw [et]; exact rdTab_in _ _)) rfl ?_; clear hst; rintro e w15 ⟨b103, rfl, hb103, hst⟩; refine ⟨_, rfl, ?_⟩
                cases b103
                · replace hb103 := of_decide_eq_false hb103.symm
                  refine Ops.xp rfl rfl (XP.call cf29 rfl ?_)
                  refine use_call (must_F _ _) rfl ?_; rintro e w' ⟨rfl, rfl⟩; refine ⟨_, rfl, ?_⟩
                  exact dec_panic 4 rfl hst.drop.drop rfl rfl (fun w' hst => dec_fail (decR_bad hll hp hb103) hst.forget)
                · replace hb103 := of_decide_eq_true hb103.symm
                  refine Ops.x rfl rfl rfl (X.call cf29 rfl ?_)
                  refine use_call (must_T _ _) rfl ?_; rintro e w' ⟨rfl, rfl⟩; refine ⟨_, rfl, ?_⟩
                  refine Ops.done rfl ?_
                  refine W.seq rfl ?_
                  refine W.region rfl ?_
                  refine Ops.y rfl rfl rfl hst.ctx (Y.loadA 2 Try.isAgg28 Try.sizeOf28 rfl rfl rfl rfl) ?_
                  refine Ops.x rfl rfl rfl (X.storeS hst 2 Try.sizeOf28 rfl rfl (vs := (rdM q).cells A c) rfl rfl rfl (Nat.le_of_ble_eq_true rfl) (cs' := (rdM q).cells A c) rfl rfl ?_)
                  clear hst; intro w16 hst
                  refine Ops.x rfl rfl rfl (X.storeV hst 3 (.int _ _) Try.sizeOf32 rfl rfl rfl rfl (Nat.le_of_ble_eq_true rfl) rfl rfl ?_)
                  clear hst; intro w162 hst
                  refine Ops.done rfl ?_
                  refine W.ret rfl ?_
                  exact dec_ret rfl hst.swap.drop.up3.up3 rfl rfl (fun w' hst => dec_done (decR_ok hll hp hform hb103) hst.forget)
              · replace hb88 := of_decide_eq_true hb88.symm
                refine W.condT rfl rfl ?_
                refine W.skip rfl ?_
                refine W.seq rfl ?_
                refine W.block rfl ?_
                refine W.seq rfl ?_
                refine W.region rfl ?_
                refine Ops.y rfl rfl rfl hst.ctx (bd45_ rfl) ?_
                refine Ops.x rfl rfl rfl (X.allocA hst Try.zeroValue45 ?_)
                clear hst; intro p7 w7 hst
                first
                | refine Ops.x rfl rfl rfl (X.storeS hst 0 Try.sizeOf45 rfl rfl rfl rfl rfl (Nat.le_of_ble_eq_true rfl) rfl rfl ?_)
                | refine Ops.x rfl rfl rfl (X.storeS hst 1 Try.sizeOf45 rfl rfl rfl rfl rfl (Nat.le_of_ble_eq_true rfl) rfl rfl ?_)
                | refine Ops.x rfl rfl rfl (X.storeS hst 2 Try.sizeOf45 rfl rfl rfl rfl rfl (Nat.le_of_ble_eq_true rfl) rfl rfl ?_)
                clear hst; intro w11_2 hst
                try simp only [List.set_cons_zero, List.set_cons_succ, Nat.zero_add, Nat.reduceAdd, splice, List.take, List.drop, List.append_eq, List.nil_append, List.cons_append, List.length_cons, List.length_nil] at hst
                refine Ops.done rfl ?_
                refine W.seq rfl ?_
                refine W.region rfl ?_
                refine Ops.y rfl rfl rfl hst.ctx (Y.moveP rfl) ?_
                first
                | refine Ops.y rfl rfl rfl hst.ctx (Y.fieldAddr fa45_0 rfl) ?_
                | refine Ops.y rfl rfl rfl hst.ctx (Y.fieldAddrP fa45_0 rfl) ?_
                first
                | refine Ops.y rfl rfl rfl hst.ctx (Y.fieldAddr fa45_1 rfl) ?_
                | refine Ops.y rfl rfl rfl hst.ctx (Y.fieldAddrP fa45_1 rfl) ?_
                refine Ops.x rfl rfl rfl (X.lits hst Try.underlying75 Try.sizeOf66 Try.zeroValue66 (by rfl) (by rfl) (by rfl) [.pointer _, .pointer _] (by rfl) (by rfl) ?_)
                clear hst; intro p93 w93 hst
                have hup := hst.up4.up3.swap
                refine Ops.x rfl rfl rfl (X.call cf31 rfl ?_)
                refine use_call (rnums_any p64 p7 [0, 1] _ _ (q.drop (76 + 16 * k)) _ _ _ _ _ _ _ _ _ hup hs9 (Rds.ofCells 0 rfl 2 2) (by simp; omega) (by simp; omega) (by simp)) rfl ?_
                clear hst hup; rintro e w12 ⟨rfl, A12, c12, hs12, hst⟩; refine ⟨_, rfl, ?_⟩
                replace hst := hst.up3.drop
                rw [show ([0, 1] : List Nat).length = 2 from rfl] at hst hs12
                rw [fk2] at hst
                refine Ops.done rfl ?_
                refine W.region rfl ?_
                first
                | refine Ops.y rfl rfl rfl hst.ctx (Y.fieldAddr fa28_10 rfl) ?_
                | refine Ops.y rfl rfl rfl hst.ctx (Y.fieldAddrP fa28_10 rfl) ?_
                refine Ops.y rfl rfl rfl hst.ctx (Y.load 3 Try.isAgg26 rfl rfl rfl) ?_
                refine Ops.y rfl rfl rfl hst.ctx (Y.loadA 1 Try.isAgg45 Try.sizeOf45 rfl rfl rfl rfl) ?_
                refine Ops.x rfl rfl rfl (X.lit1 hst Try.underlying26 Try.sizeOf45 Try.zeroValue45 (by rfl) (vs := lcs [(numAt q (9 + 2 * k), numAt q (10 + 2 * k))]) rfl (by rfl) ?_)
                clear hst; intro p98 w98 hst
                refine Ops.x rfl rfl rfl (X.append hst 3 Try.underlying26 infoLeap rfl rfl rfl rfl rfl (Rds.ofCells 0 rfl 1 1) rfl (by simp [lcs, Value.oneCell']) (by unfold maxLen; omega) (by omega) ?_)
                clear hst; intro v99 w99 hst
                obtain ⟨A99, c99, rfl, -⟩ := rowR_shape (hst.res _ (List.Mem.tail _ (List.Mem.tail _ (List.Mem.tail _ (List.Mem.head _)))))
                first
                | refine Ops.y rfl rfl rfl hst.ctx (Y.fieldAddr fa28_10 rfl) ?_
                | refine Ops.y rfl rfl rfl hst.ctx (Y.fieldAddrP fa28_10 rfl) ?_
                refine Ops.x rfl rfl rfl (X.storeV hst 4 (.slice _ _ _) Try.sizeOf26 rfl rfl rfl rfl (Nat.le_of_ble_eq_true rfl) rfl rfl ?_)
                clear hst; intro w13 hst
                refine Ops.done rfl ?_
                refine W.region rfl ?_
                refine Ops.y rfl rfl rfl hst.ctx (Y.addI rfl rfl (by omega)) ?_
                refine Ops.y rfl rfl rfl hst.ctx (Y.moveI rfl) ?_
                refine Ops.done rfl ?_
                have hd2 : (q.drop (76 + 16 * k)).drop (8 * 2) = q.drop (76 + 16 * (k + 1)) := by rw [List.drop_drop]; congr 1
                rw [hd2] at hst hs12
                refine ⟨k + 1, ⟨rfl, trivial⟩, ⟨rfl, rfl, rfl, rfl, trivial⟩, ⟨by omega, A99, c99, A12, c12, hs12, ?_⟩, by omega⟩
                rw [rdTab_snoc, lcs_append]
                exact hst.drop.swap.drop.swap
end Go.Proofs.Ytkbkgpedpaodlaa.W
