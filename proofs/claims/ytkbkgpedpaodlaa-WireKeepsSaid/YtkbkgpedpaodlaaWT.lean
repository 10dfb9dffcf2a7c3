/- The walks of the reference's number, Tables, Same. -/
import Derived.Test.YtkbkgpedpaodlaaWQ
import Derived.Test.YtkbkgpedpaodlaaE6
set_option linter.unusedVariables false
set_option linter.unusedSimpArgs false
namespace Go.Proofs.Ytkbkgpedpaodlaa.W
open Go.RowKit Go.Proofs.Ytkbkgpedpaodlaa.K Go.Proofs.Ytkbkgpedpaodlaa.CM
theorem eq2_leap (a b c d : Int) (w : World) : (Op.equalIn 10000 45 (.agg #[.int .i64 a, .int .i64 b]) (.agg #[.int .i64 c, .int .i64 d])).run Try.prog w = .ok (decide (a = c ∧ b = d)) w :=
  run_eq2 Try.underlying45 (by kernel_rfl) (by decide) (by decide) rfl rfl Try.underlying3 Try.underlying3 (fun _ => Try.sizeOf3 _) (fun _ => Try.sizeOf3 _) (fun _ => Try.isAgg3 _) (fun _ => Try.isAgg3 _) a b c d w
theorem eqg_leap : Try.prog.eqGuardType Try.prog.depth 45 = false := by kernel_rfl
theorem eq2_span (a b c d : Int) (w : World) : (Op.equalIn 10000 23 (.agg #[.int .i64 a, .int .i64 b]) (.agg #[.int .i64 c, .int .i64 d])).run Try.prog w = .ok (decide (a = c ∧ b = d)) w :=
  run_eq2 Try.underlying23 (by kernel_rfl) (by decide) (by decide) rfl rfl Try.underlying3 Try.underlying3 (fun _ => Try.sizeOf3 _) (fun _ => Try.sizeOf3 _) (fun _ => Try.isAgg3 _) (fun _ => Try.isAgg3 _) a b c d w
theorem eqg_span : Try.prog.eqGuardType Try.prog.depth 23 = false := by kernel_rfl
theorem eq2_stamp (a b c d : Int) (w : World) : (Op.equalIn 10000 25 (.agg #[.int .i64 a, .int .i64 b]) (.agg #[.int .i64 c, .int .i64 d])).run Try.prog w = .ok (decide (a = c ∧ b = d)) w :=
  run_eq2 Try.underlying25 (by kernel_rfl) (by decide) (by decide) rfl rfl Try.underlying3 Try.underlying3 (fun _ => Try.sizeOf3 _) (fun _ => Try.sizeOf3 _) (fun _ => Try.isAgg3 _) (fun _ => Try.isAgg3 _) a b c d w
theorem eqg_stamp : Try.prog.eqGuardType Try.prog.depth 25 = false := by kernel_rfl

theorem orI_val (a : Nat) (c : UInt8) (h : a < 72057594037927936) :
    Value.int .i64 (IntKind.i64.wrap (BitVec.ofInt IntKind.i64.bits (IntKind.i64.wrap (IntKind.i64.wrap (a : Int) * 2 ^ (min ((8 : Int)).toNat IntKind.i64.bits))) ||| BitVec.ofInt IntKind.i64.bits (c.toNat : Int)).toNat) = .int .i64 (IntKind.i64.wrap ((a * 256 + c.toNat : Nat) : Int)) := by
  have hc : c.toNat < 256 := UInt8.toNat_lt c
  refine congrArg (Value.int .i64) ?_
  have e0 : IntKind.i64.wrap (a : Int) = a := IntWalk.i64_in _ (by omega)
  rw [e0]
  have e2 : BitVec.ofInt 64 (IntKind.i64.wrap ((a : Int) * 2 ^ (min ((8 : Int)).toNat IntKind.i64.bits))) = BitVec.ofNat 64 (256 * a) := by
    apply BitVec.eq_of_toNat_eq
    rw [BitVec.toNat_ofInt, BitVec.toNat_ofNat, IntKind.wrap_i64]
    rw [show (a : Int) * 2 ^ (min ((8 : Int)).toNat IntKind.i64.bits) = a * 256 from rfl, show (2 : Nat) ^ 64 = 18446744073709551616 from rfl]
    omega
  show IntKind.i64.wrap (((BitVec.ofInt 64 (IntKind.i64.wrap ((a : Int) * 2 ^ (min ((8 : Int)).toNat IntKind.i64.bits))) ||| BitVec.ofInt 64 ((c.toNat : Nat) : Int)).toNat : Nat) : Int) = _
  rw [e2, BitVec.ofInt_natCast, BitVec.toNat_or, BitVec.toNat_ofNat, BitVec.toNat_ofNat, Nat.mod_eq_of_lt (by omega), Nat.mod_eq_of_lt (by omega)]
  have h3 := Nat.two_pow_add_eq_or_of_lt (i := 8) (b := c.toNat) hc a
  rw [show (2 : Nat) ^ 8 = 256 from rfl] at h3
  rw [← h3, show 256 * a = a * 256 by omega]
theorem cf21 : ∀ args w, (callFunc 21 args).run Try.prog w = .ok (.enter 21 args) w := fun _ _ => by simp [go_sem]

set_option maxHeartbeats 2000000 in
theorem number_any (l : List UInt8) (k : Nat) (h : 4 + 8 * k + 8 ≤ l.length) (hl : l.length ≤ 1000000) (w0 w : World) (F0 : List Nat) (L G : List Res) (hst : St w0 F0 w L G) :
    Calls Try.prog 33 #[.string (str l), .int .i64 (k : Int)] w fun e w' => e = .returned (.int .i64 (numAt l k)) ∧ St w0 F0 w' L G := by
  have hl8 : ((l.drop (4 + 8 * k)).take 8).length = 8 := by rw [List.length_take, List.length_drop]; omega
  refine W.func Try.func33 rfl Try.ntmps33 rfl ?_
  refine W.seq rfl ?_
  refine W.region rfl ?_
  refine Ops.y rfl rfl rfl hst.ctx (Y.assignI rfl) ?_
  refine Ops.done rfl ?_
  refine W.seq rfl ?_
  refine W.region rfl ?_
  refine Ops.y rfl rfl rfl hst.ctx (Y.assignI rfl) ?_
  refine Ops.done rfl ?_
  refine W.seq rfl ?_
  refine W.seq rfl ?_
  refine W.region rfl ?_
  refine Ops.y rfl rfl rfl hst.ctx (Y.assignI rfl) ?_
  refine Ops.done rfl ?_
  refine W.block rfl ?_
  refine W.loop (γ := Nat) [(0, .string _), (1, .int _ _)] (fun j => [(5, .int .i64 (IntKind.i64.wrap (rdn (((l.drop (4 + 8 * k)).take 8).take j) : Int))), (6, .int .i64 (j : Int))]) (fun j w => j ≤ 8 ∧ St w0 F0 w L G) (fun j => 8 - j) (0) rfl ⟨rfl, rfl, trivial⟩ ?_ ?_ ?_
  · exact ⟨rfl, rfl, trivial⟩
  · exact ⟨by omega, hst⟩
  · clear hst; rintro j i w3 ⟨hj8, hst⟩
    refine W.seq rfl ?_
    refine W.seq rfl ?_
    refine W.region rfl ?_
    refine Ops.y rfl rfl rfl hst.ctx (Y.moveI rfl) ?_
    refine Ops.yb rfl rfl rfl hst.ctx (Y.lss rfl rfl) (fun b8 hb8 => ?_)
    refine Ops.done rfl ?_
    cases b8
    · replace hb8 := of_decide_eq_false hb8.symm
      refine W.condF rfl rfl ?_
      refine W.exit rfl ?_
      refine W.seq rfl ?_
      have hj : j = 8 := by omega
      subst hj
      refine W.region rfl ?_
      refine Ops.y rfl rfl rfl hst.ctx (Y.moveI rfl) ?_
      refine Ops.y rfl rfl rfl hst.ctx (Y.assignI rfl) ?_
      refine Ops.done rfl ?_
      refine W.ret rfl ?_
      refine ⟨_, Rslt.one Try.results33 rfl, ?_⟩
      refine ⟨?_, hst⟩
      rw [List.take_of_length_le (l := ((l.drop (4 + 8 * k)).take 8)) (by omega)]
      rfl
    · replace hb8 := of_decide_eq_true hb8.symm
      refine W.condT rfl rfl ?_
      refine W.skip rfl ?_
      refine W.seq rfl ?_
      refine W.block rfl ?_
      have hj1 : j < ((l.drop (4 + 8 * k)).take 8).length := by omega
      have hlt := rdn_lt (((l.drop (4 + 8 * k)).take 8).take j)
      refine W.region rfl ?_
      refine Ops.y rfl rfl rfl hst.ctx (Y.moveI rfl) ?_
      refine Ops.y rfl rfl rfl hst.ctx (Y.shl rfl rfl (by omega)) ?_
      refine Ops.y rfl rfl rfl hst.ctx (Y.moveT rfl) ?_
      refine Ops.y rfl rfl rfl hst.ctx (Y.moveI rfl) ?_
      refine Ops.y rfl rfl rfl hst.ctx (Y.mulI rfl rfl (by omega)) ?_
      refine Ops.y rfl rfl rfl hst.ctx (Y.addI rfl rfl (by omega)) ?_
      refine Ops.y rfl rfl rfl hst.ctx (Y.moveI rfl) ?_
      refine Ops.y rfl rfl rfl hst.ctx (Y.addI rfl rfl (by omega)) ?_
      refine Ops.y rfl rfl rfl hst.ctx (Y.indexT Try.underlying9 (k := 4 + 8 * k + j) rfl rfl (by omega) (by omega)) ?_
      refine Ops.y rfl rfl rfl hst.ctx (Y.byteInt Try.underlying3 Try.underlying5 rfl) ?_
      refine Ops.y rfl rfl rfl hst.ctx (Y.or rfl rfl) ?_
      refine Ops.y rfl rfl rfl hst.ctx (Y.assignI rfl) ?_
      refine Ops.done rfl ?_
      refine W.region rfl ?_
      refine Ops.y rfl rfl rfl hst.ctx (Y.moveI rfl) ?_
      refine Ops.y rfl rfl rfl hst.ctx (Y.addI rfl rfl (by omega)) ?_
      refine Ops.y rfl rfl rfl hst.ctx (Y.assignI rfl) ?_
      refine Ops.done rfl ?_
      have hpw : (256 : Nat) ^ (((l.drop (4 + 8 * k)).take 8).take j).length ≤ 256 ^ 7 := Nat.pow_le_pow_right (by decide) (by rw [List.length_take]; omega)
      have hor := orI_val (rdn (((l.drop (4 + 8 * k)).take 8).take j)) (((l.drop (4 + 8 * k)).take 8).getD j 0) (Nat.lt_of_lt_of_le hlt (Nat.le_trans hpw (by decide)))
      rw [← rdn_snoc, ← take_snoc8 hj1] at hor
      have hg : ((l.drop (4 + 8 * k)).take 8).getD j 0 = l.getD (4 + 8 * k + j) 0 := by
        rw [List.getD_eq_getElem?_getD, List.getD_eq_getElem?_getD, List.getElem?_take, if_pos (by omega), List.getElem?_drop]
      rw [hg] at hor
      exact ⟨j + 1, ⟨hor, rfl, trivial⟩, ⟨rfl, rfl, trivial⟩, ⟨by omega, hst⟩, by omega⟩

theorem lp_ext {s t : List (Int × Int)} (hl : s.length = t.length) (h : ∀ i, i < s.length → lp s i = lp t i) : s = t := by
  apply List.ext_getElem hl
  intro i h1 h2
  have := h i h1
  unfold lp at this
  simpa [h1, h2] using this
set_option maxHeartbeats 2000000 in
theorem tables_any (s t : List (Int × Int)) (h63 : s.length ≤ 9223372036854775807) (A B : Option Addr) (ca cb : Nat) (w0 w : World) (F0 : List Nat) (L G : List Res) (hst : St w0 F0 w L G)
    (hs : Rds L G (.slice A s.length ca) s.length (lcs s)) (ht : Rds L G (.slice B t.length cb) t.length (lcs t)) :
    Calls Try.prog 21 #[.slice A s.length ca, .slice B t.length cb] w fun e w' => ∃ b, e = .returned (.bool b) ∧ b = decide (s = t) ∧ St w0 F0 w' L G := by
  refine W.func Try.func21 rfl Try.ntmps21 rfl ?_
  refine W.seq rfl ?_
  refine W.region rfl ?_
  refine Ops.y rfl rfl rfl hst.ctx (Y.assignB rfl) ?_
  refine Ops.done rfl ?_
  refine W.seq rfl ?_
  refine W.seq rfl ?_
  refine W.region rfl ?_
  refine Ops.y rfl rfl rfl hst.ctx (Y.moveS rfl) ?_
  refine Ops.y rfl rfl rfl hst.ctx (Y.lenS Try.underlying26 rfl) ?_
  refine Ops.y rfl rfl rfl hst.ctx (Y.moveS rfl) ?_
  refine Ops.y rfl rfl rfl hst.ctx (Y.lenS Try.underlying26 rfl) ?_
  refine Ops.yb rfl rfl rfl hst.ctx (Y.neq rfl rfl) (fun b10 hb10 => ?_)
  refine Ops.done rfl ?_
  cases b10
  · replace hb10 := of_decide_eq_false hb10.symm
    refine W.condF rfl rfl ?_
    refine W.skip rfl ?_
    refine W.seq rfl ?_
    refine W.seq rfl ?_
    refine W.region rfl ?_
    refine Ops.y rfl rfl rfl hst.ctx (Y.moveS rfl) ?_
    refine Ops.y rfl rfl rfl hst.ctx (Y.lenS Try.underlying26 rfl) ?_
    refine Ops.y rfl rfl rfl hst.ctx (Y.moveI rfl) ?_
    refine Ops.done rfl ?_
    refine W.block rfl ?_
    refine W.loop (γ := Nat) [(0, .slice _ _ _), (1, .slice _ _ _), (12, .int _ _)] (fun k => [(13, .int .i64 (k : Int))]) (fun k w => (k ≤ s.length ∧ ∀ i, i < k → lp s i = lp t i) ∧ St w0 F0 w L G) (fun k => s.length - k) (0) rfl ⟨rfl, rfl, rfl, trivial⟩ ?_ ?_ ?_
    · exact ⟨rfl, trivial⟩
    · exact ⟨⟨by omega, fun i h => by omega⟩, hst⟩
    · clear hst; rintro k j w3 ⟨⟨hk, he⟩, hst⟩
      refine W.seq rfl ?_
      refine W.region rfl ?_
      refine Ops.yb rfl rfl rfl hst.ctx (Y.lss rfl rfl) (fun b14 hb14 => ?_)
      refine Ops.done rfl ?_
      refine W.seq rfl ?_
      cases b14
      · replace hb14 := of_decide_eq_false hb14.symm
        refine W.condF rfl rfl ?_
        refine W.exit rfl ?_
        refine W.seq rfl ?_
        have hk1 : k = s.length := by omega
        refine W.region rfl ?_
        refine Ops.y rfl rfl rfl hst.ctx (Y.assignB rfl) ?_
        refine Ops.done rfl ?_
        refine W.ret rfl ?_
        refine ⟨_, Rslt.one Try.results21 rfl, ?_⟩
        exact ⟨_, rfl, (decide_eq_true (lp_ext (by omega) (fun i h => he i (by omega)))).symm, hst⟩
      · replace hb14 := of_decide_eq_true hb14.symm
        refine W.condT rfl rfl ?_
        refine W.skip rfl ?_
        refine W.seq rfl ?_
        refine W.block rfl ?_
        refine W.seq rfl ?_
        refine W.region rfl ?_
        refine Ops.y rfl rfl rfl hst.ctx (Y.moveI rfl) ?_
        refine Ops.y rfl rfl rfl hst.ctx (Y.assignI rfl) ?_
        refine Ops.done rfl ?_
        refine W.seq rfl ?_
        have hk1 : k < s.length := by omega
        have hk2 : k < t.length := by omega
        refine W.drawn rfl (by kernel_rfl) (Ctx _ _ (_) (_)) [] (.op 0 0 (.op 1 0 (.op 2 0 (.op 3 0 (.op 4 0 (.op 5 0 (.op 6 0 (.op 7 0 (.op 8 0 .nil))))))))) rfl (by kernel_rfl) hst.drew.ctx ?_
        replace hst := hst.drew
        generalize World.drew _ = wd at hst ⊢
        refine Drw.y rfl rfl rfl hst.ctx (Y.moveS rfl) ?_
        refine Drw.y rfl rfl rfl hst.ctx (Y.moveI rfl) ?_
        refine Drw.y rfl rfl rfl hst.ctx (Y.indexAddr Try.underlying26 Try.sizeOf45 rfl rfl ((hs.sl hst).ne (by rw [lcs_length]; omega)) (by omega)) ?_
        refine Drw.y rfl rfl rfl hst.ctx (Y.loadSlA Try.isAgg45 Try.sizeOf45 rfl hs (lcs_two hk1) rfl) ?_
        refine Drw.y rfl rfl rfl hst.ctx (Y.moveS rfl) ?_
        refine Drw.y rfl rfl rfl hst.ctx (Y.moveI rfl) ?_
        refine Drw.y rfl rfl rfl hst.ctx (Y.indexAddr Try.underlying26 Try.sizeOf45 rfl rfl ((ht.sl hst).ne (by rw [lcs_length]; omega)) (by omega)) ?_
        refine Drw.y rfl rfl rfl hst.ctx (Y.loadSlA Try.isAgg45 Try.sizeOf45 rfl ht (lcs_two hk2) rfl) ?_
        refine Drw.yb rfl rfl rfl hst.ctx (Y.ne2 eqg_leap eq2_leap rfl rfl) (fun b24 hb24 => ?_)
        refine Drw.done ?_
        cases b24
        · replace hb24 := of_decide_eq_false hb24.symm
          refine W.condF rfl rfl ?_
          refine W.skip rfl ?_
          refine W.region rfl ?_
          refine Ops.y rfl rfl rfl hst.ctx (Y.addI rfl rfl (by omega)) ?_
          refine Ops.y rfl rfl rfl hst.ctx (Y.moveI rfl) ?_
          refine Ops.done rfl ?_
          have hb24 : (lp s k).1 = (lp t k).1 ∧ (lp s k).2 = (lp t k).2 := by simpa using hb24
          refine ⟨k + 1, ⟨rfl, trivial⟩, ⟨rfl, rfl, rfl, trivial⟩, ⟨⟨by omega, fun i h => ?_⟩, hst⟩, by omega⟩
          rcases (show i < k ∨ i = k by omega) with h | rfl
          · exact he i h
          · exact Prod.ext hb24.1 hb24.2
        · replace hb24 := of_decide_eq_true hb24.symm
          refine W.condT rfl rfl ?_
          refine W.seq rfl ?_
          refine W.region rfl ?_
          refine Ops.y rfl rfl rfl hst.ctx (Y.assignB rfl) ?_
          refine Ops.done rfl ?_
          refine W.ret rfl ?_
          refine ⟨_, Rslt.one Try.results21 rfl, ?_⟩
          exact ⟨_, rfl, (decide_eq_false (fun h => hb24 (by rw [h]; exact ⟨rfl, rfl⟩))).symm, hst⟩
  · replace hb10 := of_decide_eq_true hb10.symm
    refine W.condT rfl rfl ?_
    refine W.seq rfl ?_
    refine W.region rfl ?_
    refine Ops.y rfl rfl rfl hst.ctx (Y.assignB rfl) ?_
    refine Ops.done rfl ?_
    refine W.ret rfl ?_
    refine ⟨_, Rslt.one Try.results21 rfl, ?_⟩
    exact ⟨_, rfl, (decide_eq_false (fun h => hb10 (by rw [h]))).symm, hst⟩

/-- Two messages are the same. -/
def SameP (a b : M) : Prop := a.kind = b.kind ∧ a.from_ = b.from_ ∧ (a.slo = b.slo ∧ a.shi = b.shi) ∧ a.held = b.held ∧ a.hops = b.hops ∧ a.good = b.good ∧ a.ref = b.ref ∧ (a.elo = b.elo ∧ a.ehi = b.ehi) ∧ a.pulse = b.pulse ∧ (a.time = b.time ∧ a.num = b.num) ∧ a.tab = b.tab
instance (a b : M) : Decidable (SameP a b) := by unfold SameP; infer_instance
theorem same_iff {a b : M} : SameP a b ↔ a = b := by
  constructor
  · rintro ⟨h0, h1, ⟨h2, h3⟩, h4, h5, h6, h7, ⟨h8, h9⟩, h10, ⟨h11, h12⟩, h13⟩
    cases a; cases b
    simp_all
  · rintro rfl
    exact ⟨rfl, rfl, ⟨rfl, rfl⟩, rfl, rfl, rfl, rfl, ⟨rfl, rfl⟩, rfl, ⟨rfl, rfl⟩, rfl⟩
set_option maxHeartbeats 4000000 in
theorem same_any (x y : M) (h63 : x.tab.length ≤ 9223372036854775807) (A B : Option Addr) (ca cb : Nat) (w0 w : World) (F0 : List Nat) (L G : List Res) (hst : St w0 F0 w L G)
    (hs : Rds L G (.slice A x.tab.length ca) x.tab.length (lcs x.tab)) (ht : Rds L G (.slice B y.tab.length cb) y.tab.length (lcs y.tab)) :
    Calls Try.prog 20 #[.agg #[.int .i64 x.kind, .int .i64 x.from_, .int .i64 x.slo, .int .i64 x.shi, .int .i64 x.held, .int .i64 x.hops, .bool x.good, .bool x.ref, .int .i64 x.elo, .int .i64 x.ehi, .int .i64 x.pulse, .int .i64 x.time, .int .i64 x.num, .slice A x.tab.length ca], .agg #[.int .i64 y.kind, .int .i64 y.from_, .int .i64 y.slo, .int .i64 y.shi, .int .i64 y.held, .int .i64 y.hops, .bool y.good, .bool y.ref, .int .i64 y.elo, .int .i64 y.ehi, .int .i64 y.pulse, .int .i64 y.time, .int .i64 y.num, .slice B y.tab.length cb]] w fun e w' => ∃ b, e = .returned (.bool b) ∧ b = decide (SameP x y) ∧ St w0 F0 w' L G := by
  refine W.func Try.func20 rfl Try.ntmps20 rfl ?_
  refine W.seq rfl ?_
  refine W.region rfl ?_
  refine Ops.x rfl rfl rfl (X.boxA hst rfl ?_)
  clear hst; intro p2 w2 hst
  refine Ops.x rfl rfl rfl (X.boxA hst rfl ?_)
  clear hst; intro p3 w3 hst
  refine Ops.y rfl rfl rfl hst.ctx (Y.assignB rfl) ?_
  refine Ops.done rfl ?_
  refine W.seq rfl ?_
  refine W.region rfl ?_
  first
  | refine Ops.y rfl rfl rfl hst.ctx (Y.fieldAddr fa28_0 rfl) ?_
  | refine Ops.y rfl rfl rfl hst.ctx (Y.fieldAddrP fa28_0 rfl) ?_
  first
  | refine Ops.y rfl rfl rfl hst.ctx (Y.load 0 Try.isAgg3 rfl rfl rfl) ?_
  | refine Ops.y rfl rfl rfl hst.ctx (Y.load 1 Try.isAgg3 rfl rfl rfl) ?_
  first
  | refine Ops.y rfl rfl rfl hst.ctx (Y.fieldAddr fa28_0 rfl) ?_
  | refine Ops.y rfl rfl rfl hst.ctx (Y.fieldAddrP fa28_0 rfl) ?_
  first
  | refine Ops.y rfl rfl rfl hst.ctx (Y.load 0 Try.isAgg3 rfl rfl rfl) ?_
  | refine Ops.y rfl rfl rfl hst.ctx (Y.load 1 Try.isAgg3 rfl rfl rfl) ?_
  refine Ops.yb rfl rfl rfl hst.ctx (Y.eql rfl rfl) (fun b9 hb9 => ?_)
  refine Ops.y rfl rfl rfl hst.ctx (Y.moveB rfl) ?_
  cases b9
  · replace hb9 := of_decide_eq_false hb9.symm
    refine Ops.no rfl rfl rfl ?_
    refine Ops.no rfl rfl rfl ?_
    refine Ops.no rfl rfl rfl ?_
    refine Ops.no rfl rfl rfl ?_
    refine Ops.no rfl rfl rfl ?_
    refine Ops.y rfl rfl rfl hst.ctx (Y.pick (.bool _) rfl rfl) ?_
    refine Ops.y rfl rfl rfl hst.ctx (Y.moveB rfl) ?_
    refine Ops.no rfl rfl rfl ?_
    refine Ops.no rfl rfl rfl ?_
    refine Ops.no rfl rfl rfl ?_
    refine Ops.no rfl rfl rfl ?_
    refine Ops.no rfl rfl rfl ?_
    refine Ops.y rfl rfl rfl hst.ctx (Y.pick (.bool _) rfl rfl) ?_
    refine Ops.y rfl rfl rfl hst.ctx (Y.moveB rfl) ?_
    refine Ops.no rfl rfl rfl ?_
    refine Ops.no rfl rfl rfl ?_
    refine Ops.no rfl rfl rfl ?_
    refine Ops.no rfl rfl rfl ?_
    refine Ops.no rfl rfl rfl ?_
    refine Ops.y rfl rfl rfl hst.ctx (Y.pick (.bool _) rfl rfl) ?_
    refine Ops.y rfl rfl rfl hst.ctx (Y.moveB rfl) ?_
    refine Ops.no rfl rfl rfl ?_
    refine Ops.no rfl rfl rfl ?_
    refine Ops.no rfl rfl rfl ?_
    refine Ops.no rfl rfl rfl ?_
    refine Ops.no rfl rfl rfl ?_
    refine Ops.y rfl rfl rfl hst.ctx (Y.pick (.bool _) rfl rfl) ?_
    refine Ops.y rfl rfl rfl hst.ctx (Y.moveB rfl) ?_
    refine Ops.no rfl rfl rfl ?_
    refine Ops.no rfl rfl rfl ?_
    refine Ops.no rfl rfl rfl ?_
    refine Ops.no rfl rfl rfl ?_
    refine Ops.no rfl rfl rfl ?_
    refine Ops.y rfl rfl rfl hst.ctx (Y.pick (.bool _) rfl rfl) ?_
    refine Ops.y rfl rfl rfl hst.ctx (Y.moveB rfl) ?_
    refine Ops.no rfl rfl rfl ?_
    refine Ops.no rfl rfl rfl ?_
    refine Ops.no rfl rfl rfl ?_
    refine Ops.no rfl rfl rfl ?_
    refine Ops.no rfl rfl rfl ?_
    refine Ops.y rfl rfl rfl hst.ctx (Y.pick (.bool _) rfl rfl) ?_
    refine Ops.y rfl rfl rfl hst.ctx (Y.moveB rfl) ?_
    refine Ops.no rfl rfl rfl ?_
    refine Ops.no rfl rfl rfl ?_
    refine Ops.no rfl rfl rfl ?_
    refine Ops.no rfl rfl rfl ?_
    refine Ops.no rfl rfl rfl ?_
    refine Ops.y rfl rfl rfl hst.ctx (Y.pick (.bool _) rfl rfl) ?_
    refine Ops.y rfl rfl rfl hst.ctx (Y.moveB rfl) ?_
    refine Ops.no rfl rfl rfl ?_
    refine Ops.no rfl rfl rfl ?_
    refine Ops.no rfl rfl rfl ?_
    refine Ops.no rfl rfl rfl ?_
    refine Ops.no rfl rfl rfl ?_
    refine Ops.y rfl rfl rfl hst.ctx (Y.pick (.bool _) rfl rfl) ?_
    refine Ops.y rfl rfl rfl hst.ctx (Y.moveB rfl) ?_
    refine Ops.no rfl rfl rfl ?_
    refine Ops.no rfl rfl rfl ?_
    refine Ops.no rfl rfl rfl ?_
    refine Ops.no rfl rfl rfl ?_
    refine Ops.no rfl rfl rfl ?_
    refine Ops.y rfl rfl rfl hst.ctx (Y.pick (.bool _) rfl rfl) ?_
    refine Ops.y rfl rfl rfl hst.ctx (Y.moveB rfl) ?_
    refine Ops.no rfl rfl rfl ?_
    refine Ops.no rfl rfl rfl ?_
    refine Ops.no rfl rfl rfl ?_
    refine Ops.no rfl rfl rfl ?_
    refine Ops.no rfl rfl rfl ?_
    refine Ops.y rfl rfl rfl hst.ctx (Y.pick (.bool _) rfl rfl) ?_
    refine Ops.y rfl rfl rfl hst.ctx (Y.assignB rfl) ?_
    refine Ops.done rfl ?_
    refine W.ret rfl ?_
    refine ⟨_, Rslt.one Try.results20 rfl, ?_⟩
    exact ⟨_, rfl, (decide_eq_false (fun h => hb9 h.1)).symm, hst.drop.drop⟩
  · replace hb9 := of_decide_eq_true hb9.symm
    first
    | refine Ops.y rfl rfl rfl hst.ctx (Y.fieldAddr fa28_1 rfl) ?_
    | refine Ops.y rfl rfl rfl hst.ctx (Y.fieldAddrP fa28_1 rfl) ?_
    first
    | refine Ops.y rfl rfl rfl hst.ctx (Y.load 0 Try.isAgg3 rfl rfl rfl) ?_
    | refine Ops.y rfl rfl rfl hst.ctx (Y.load 1 Try.isAgg3 rfl rfl rfl) ?_
    first
    | refine Ops.y rfl rfl rfl hst.ctx (Y.fieldAddr fa28_1 rfl) ?_
    | refine Ops.y rfl rfl rfl hst.ctx (Y.fieldAddrP fa28_1 rfl) ?_
    first
    | refine Ops.y rfl rfl rfl hst.ctx (Y.load 0 Try.isAgg3 rfl rfl rfl) ?_
    | refine Ops.y rfl rfl rfl hst.ctx (Y.load 1 Try.isAgg3 rfl rfl rfl) ?_
    refine Ops.yb rfl rfl rfl hst.ctx (Y.eql rfl rfl) (fun b15 hb15 => ?_)
    refine Ops.y rfl rfl rfl hst.ctx (Y.pick (.bool _) rfl rfl) ?_
    refine Ops.y rfl rfl rfl hst.ctx (Y.moveB rfl) ?_
    cases b15
    · replace hb15 := of_decide_eq_false hb15.symm
      refine Ops.no rfl rfl rfl ?_
      refine Ops.no rfl rfl rfl ?_
      refine Ops.no rfl rfl rfl ?_
      refine Ops.no rfl rfl rfl ?_
      refine Ops.no rfl rfl rfl ?_
      refine Ops.y rfl rfl rfl hst.ctx (Y.pick (.bool _) rfl rfl) ?_
      refine Ops.y rfl rfl rfl hst.ctx (Y.moveB rfl) ?_
      refine Ops.no rfl rfl rfl ?_
      refine Ops.no rfl rfl rfl ?_
      refine Ops.no rfl rfl rfl ?_
      refine Ops.no rfl rfl rfl ?_
      refine Ops.no rfl rfl rfl ?_
      refine Ops.y rfl rfl rfl hst.ctx (Y.pick (.bool _) rfl rfl) ?_
      refine Ops.y rfl rfl rfl hst.ctx (Y.moveB rfl) ?_
      refine Ops.no rfl rfl rfl ?_
      refine Ops.no rfl rfl rfl ?_
      refine Ops.no rfl rfl rfl ?_
      refine Ops.no rfl rfl rfl ?_
      refine Ops.no rfl rfl rfl ?_
      refine Ops.y rfl rfl rfl hst.ctx (Y.pick (.bool _) rfl rfl) ?_
      refine Ops.y rfl rfl rfl hst.ctx (Y.moveB rfl) ?_
      refine Ops.no rfl rfl rfl ?_
      refine Ops.no rfl rfl rfl ?_
      refine Ops.no rfl rfl rfl ?_
      refine Ops.no rfl rfl rfl ?_
      refine Ops.no rfl rfl rfl ?_
      refine Ops.y rfl rfl rfl hst.ctx (Y.pick (.bool _) rfl rfl) ?_
      refine Ops.y rfl rfl rfl hst.ctx (Y.moveB rfl) ?_
      refine Ops.no rfl rfl rfl ?_
      refine Ops.no rfl rfl rfl ?_
      refine Ops.no rfl rfl rfl ?_
      refine Ops.no rfl rfl rfl ?_
      refine Ops.no rfl rfl rfl ?_
      refine Ops.y rfl rfl rfl hst.ctx (Y.pick (.bool _) rfl rfl) ?_
      refine Ops.y rfl rfl rfl hst.ctx (Y.moveB rfl) ?_
      refine Ops.no rfl rfl rfl ?_
      refine Ops.no rfl rfl rfl ?_
      refine Ops.no rfl rfl rfl ?_
      refine Ops.no rfl rfl rfl ?_
      refine Ops.no rfl rfl rfl ?_
      refine Ops.y rfl rfl rfl hst.ctx (Y.pick (.bool _) rfl rfl) ?_
      refine Ops.y rfl rfl rfl hst.ctx (Y.moveB rfl) ?_
      refine Ops.no rfl rfl rfl ?_
      refine Ops.no rfl rfl rfl ?_
      refine Ops.no rfl rfl rfl ?_
      refine Ops.no rfl rfl rfl ?_
      refine Ops.no rfl rfl rfl ?_
      refine Ops.y rfl rfl rfl hst.ctx (Y.pick (.bool _) rfl rfl) ?_
      refine Ops.y rfl rfl rfl hst.ctx (Y.moveB rfl) ?_
      refine Ops.no rfl rfl rfl ?_
      refine Ops.no rfl rfl rfl ?_
      refine Ops.no rfl rfl rfl ?_
      refine Ops.no rfl rfl rfl ?_
      refine Ops.no rfl rfl rfl ?_
      refine Ops.y rfl rfl rfl hst.ctx (Y.pick (.bool _) rfl rfl) ?_
      refine Ops.y rfl rfl rfl hst.ctx (Y.moveB rfl) ?_
      refine Ops.no rfl rfl rfl ?_
      refine Ops.no rfl rfl rfl ?_
      refine Ops.no rfl rfl rfl ?_
      refine Ops.no rfl rfl rfl ?_
      refine Ops.no rfl rfl rfl ?_
      refine Ops.y rfl rfl rfl hst.ctx (Y.pick (.bool _) rfl rfl) ?_
      refine Ops.y rfl rfl rfl hst.ctx (Y.assignB rfl) ?_
      refine Ops.done rfl ?_
      refine W.ret rfl ?_
      refine ⟨_, Rslt.one Try.results20 rfl, ?_⟩
      exact ⟨_, rfl, (decide_eq_false (fun h => hb15 h.2.1)).symm, hst.drop.drop⟩
    · replace hb15 := of_decide_eq_true hb15.symm
      first
      | refine Ops.y rfl rfl rfl hst.ctx (Y.fieldAddr fa28_2 rfl) ?_
      | refine Ops.y rfl rfl rfl hst.ctx (Y.fieldAddrP fa28_2 rfl) ?_
      first
      | refine Ops.y rfl rfl rfl hst.ctx (Y.loadA 0 Try.isAgg23 Try.sizeOf23 rfl rfl rfl rfl) ?_
      | refine Ops.y rfl rfl rfl hst.ctx (Y.loadA 1 Try.isAgg23 Try.sizeOf23 rfl rfl rfl rfl) ?_
      first
      | refine Ops.y rfl rfl rfl hst.ctx (Y.fieldAddr fa28_2 rfl) ?_
      | refine Ops.y rfl rfl rfl hst.ctx (Y.fieldAddrP fa28_2 rfl) ?_
      first
      | refine Ops.y rfl rfl rfl hst.ctx (Y.loadA 0 Try.isAgg23 Try.sizeOf23 rfl rfl rfl rfl) ?_
      | refine Ops.y rfl rfl rfl hst.ctx (Y.loadA 1 Try.isAgg23 Try.sizeOf23 rfl rfl rfl rfl) ?_
      refine Ops.yb rfl rfl rfl hst.ctx (Y.eq2 eqg_span eq2_span rfl rfl) (fun b22 hb22 => ?_)
      refine Ops.y rfl rfl rfl hst.ctx (Y.pick (.bool _) rfl rfl) ?_
      refine Ops.y rfl rfl rfl hst.ctx (Y.moveB rfl) ?_
      cases b22
      · replace hb22 := of_decide_eq_false hb22.symm
        refine Ops.no rfl rfl rfl ?_
        refine Ops.no rfl rfl rfl ?_
        refine Ops.no rfl rfl rfl ?_
        refine Ops.no rfl rfl rfl ?_
        refine Ops.no rfl rfl rfl ?_
        refine Ops.y rfl rfl rfl hst.ctx (Y.pick (.bool _) rfl rfl) ?_
        refine Ops.y rfl rfl rfl hst.ctx (Y.moveB rfl) ?_
        refine Ops.no rfl rfl rfl ?_
        refine Ops.no rfl rfl rfl ?_
        refine Ops.no rfl rfl rfl ?_
        refine Ops.no rfl rfl rfl ?_
        refine Ops.no rfl rfl rfl ?_
        refine Ops.y rfl rfl rfl hst.ctx (Y.pick (.bool _) rfl rfl) ?_
        refine Ops.y rfl rfl rfl hst.ctx (Y.moveB rfl) ?_
        refine Ops.no rfl rfl rfl ?_
        refine Ops.no rfl rfl rfl ?_
        refine Ops.no rfl rfl rfl ?_
        refine Ops.no rfl rfl rfl ?_
        refine Ops.no rfl rfl rfl ?_
        refine Ops.y rfl rfl rfl hst.ctx (Y.pick (.bool _) rfl rfl) ?_
        refine Ops.y rfl rfl rfl hst.ctx (Y.moveB rfl) ?_
        refine Ops.no rfl rfl rfl ?_
        refine Ops.no rfl rfl rfl ?_
        refine Ops.no rfl rfl rfl ?_
        refine Ops.no rfl rfl rfl ?_
        refine Ops.no rfl rfl rfl ?_
        refine Ops.y rfl rfl rfl hst.ctx (Y.pick (.bool _) rfl rfl) ?_
        refine Ops.y rfl rfl rfl hst.ctx (Y.moveB rfl) ?_
        refine Ops.no rfl rfl rfl ?_
        refine Ops.no rfl rfl rfl ?_
        refine Ops.no rfl rfl rfl ?_
        refine Ops.no rfl rfl rfl ?_
        refine Ops.no rfl rfl rfl ?_
        refine Ops.y rfl rfl rfl hst.ctx (Y.pick (.bool _) rfl rfl) ?_
        refine Ops.y rfl rfl rfl hst.ctx (Y.moveB rfl) ?_
        refine Ops.no rfl rfl rfl ?_
        refine Ops.no rfl rfl rfl ?_
        refine Ops.no rfl rfl rfl ?_
        refine Ops.no rfl rfl rfl ?_
        refine Ops.no rfl rfl rfl ?_
        refine Ops.y rfl rfl rfl hst.ctx (Y.pick (.bool _) rfl rfl) ?_
        refine Ops.y rfl rfl rfl hst.ctx (Y.moveB rfl) ?_
        refine Ops.no rfl rfl rfl ?_
        refine Ops.no rfl rfl rfl ?_
        refine Ops.no rfl rfl rfl ?_
        refine Ops.no rfl rfl rfl ?_
        refine Ops.no rfl rfl rfl ?_
        refine Ops.y rfl rfl rfl hst.ctx (Y.pick (.bool _) rfl rfl) ?_
        refine Ops.y rfl rfl rfl hst.ctx (Y.moveB rfl) ?_
        refine Ops.no rfl rfl rfl ?_
        refine Ops.no rfl rfl rfl ?_
        refine Ops.no rfl rfl rfl ?_
        refine Ops.no rfl rfl rfl ?_
        refine Ops.no rfl rfl rfl ?_
        refine Ops.y rfl rfl rfl hst.ctx (Y.pick (.bool _) rfl rfl) ?_
        refine Ops.y rfl rfl rfl hst.ctx (Y.assignB rfl) ?_
        refine Ops.done rfl ?_
        refine W.ret rfl ?_
        refine ⟨_, Rslt.one Try.results20 rfl, ?_⟩
        exact ⟨_, rfl, (decide_eq_false (fun h => hb22 h.2.2.1)).symm, hst.drop.drop⟩
      · replace hb22 := of_decide_eq_true hb22.symm
        first
        | refine Ops.y rfl rfl rfl hst.ctx (Y.fieldAddr fa28_3 rfl) ?_
        | refine Ops.y rfl rfl rfl hst.ctx (Y.fieldAddrP fa28_3 rfl) ?_
        first
        | refine Ops.y rfl rfl rfl hst.ctx (Y.load 0 Try.isAgg3 rfl rfl rfl) ?_
        | refine Ops.y rfl rfl rfl hst.ctx (Y.load 1 Try.isAgg3 rfl rfl rfl) ?_
        first
        | refine Ops.y rfl rfl rfl hst.ctx (Y.fieldAddr fa28_3 rfl) ?_
        | refine Ops.y rfl rfl rfl hst.ctx (Y.fieldAddrP fa28_3 rfl) ?_
        first
        | refine Ops.y rfl rfl rfl hst.ctx (Y.load 0 Try.isAgg3 rfl rfl rfl) ?_
        | refine Ops.y rfl rfl rfl hst.ctx (Y.load 1 Try.isAgg3 rfl rfl rfl) ?_
        refine Ops.yb rfl rfl rfl hst.ctx (Y.eql rfl rfl) (fun b29 hb29 => ?_)
        refine Ops.y rfl rfl rfl hst.ctx (Y.pick (.bool _) rfl rfl) ?_
        refine Ops.y rfl rfl rfl hst.ctx (Y.moveB rfl) ?_
        cases b29
        · replace hb29 := of_decide_eq_false hb29.symm
          refine Ops.no rfl rfl rfl ?_
          refine Ops.no rfl rfl rfl ?_
          refine Ops.no rfl rfl rfl ?_
          refine Ops.no rfl rfl rfl ?_
          refine Ops.no rfl rfl rfl ?_
          refine Ops.y rfl rfl rfl hst.ctx (Y.pick (.bool _) rfl rfl) ?_
          refine Ops.y rfl rfl rfl hst.ctx (Y.moveB rfl) ?_
          refine Ops.no rfl rfl rfl ?_
          refine Ops.no rfl rfl rfl ?_
          refine Ops.no rfl rfl rfl ?_
          refine Ops.no rfl rfl rfl ?_
          refine Ops.no rfl rfl rfl ?_
          refine Ops.y rfl rfl rfl hst.ctx (Y.pick (.bool _) rfl rfl) ?_
          refine Ops.y rfl rfl rfl hst.ctx (Y.moveB rfl) ?_
          refine Ops.no rfl rfl rfl ?_
          refine Ops.no rfl rfl rfl ?_
          refine Ops.no rfl rfl rfl ?_
          refine Ops.no rfl rfl rfl ?_
          refine Ops.no rfl rfl rfl ?_
          refine Ops.y rfl rfl rfl hst.ctx (Y.pick (.bool _) rfl rfl) ?_
          refine Ops.y rfl rfl rfl hst.ctx (Y.moveB rfl) ?_
          refine Ops.no rfl rfl rfl ?_
          refine Ops.no rfl rfl rfl ?_
          refine Ops.no rfl rfl rfl ?_
          refine Ops.no rfl rfl rfl ?_
          refine Ops.no rfl rfl rfl ?_
          refine Ops.y rfl rfl rfl hst.ctx (Y.pick (.bool _) rfl rfl) ?_
          refine Ops.y rfl rfl rfl hst.ctx (Y.moveB rfl) ?_
          refine Ops.no rfl rfl rfl ?_
          refine Ops.no rfl rfl rfl ?_
          refine Ops.no rfl rfl rfl ?_
          refine Ops.no rfl rfl rfl ?_
          refine Ops.no rfl rfl rfl ?_
          refine Ops.y rfl rfl rfl hst.ctx (Y.pick (.bool _) rfl rfl) ?_
          refine Ops.y rfl rfl rfl hst.ctx (Y.moveB rfl) ?_
          refine Ops.no rfl rfl rfl ?_
          refine Ops.no rfl rfl rfl ?_
          refine Ops.no rfl rfl rfl ?_
          refine Ops.no rfl rfl rfl ?_
          refine Ops.no rfl rfl rfl ?_
          refine Ops.y rfl rfl rfl hst.ctx (Y.pick (.bool _) rfl rfl) ?_
          refine Ops.y rfl rfl rfl hst.ctx (Y.moveB rfl) ?_
          refine Ops.no rfl rfl rfl ?_
          refine Ops.no rfl rfl rfl ?_
          refine Ops.no rfl rfl rfl ?_
          refine Ops.no rfl rfl rfl ?_
          refine Ops.no rfl rfl rfl ?_
          refine Ops.y rfl rfl rfl hst.ctx (Y.pick (.bool _) rfl rfl) ?_
          refine Ops.y rfl rfl rfl hst.ctx (Y.assignB rfl) ?_
          refine Ops.done rfl ?_
          refine W.ret rfl ?_
          refine ⟨_, Rslt.one Try.results20 rfl, ?_⟩
          exact ⟨_, rfl, (decide_eq_false (fun h => hb29 h.2.2.2.1)).symm, hst.drop.drop⟩
        · replace hb29 := of_decide_eq_true hb29.symm
          first
          | refine Ops.y rfl rfl rfl hst.ctx (Y.fieldAddr fa28_4 rfl) ?_
          | refine Ops.y rfl rfl rfl hst.ctx (Y.fieldAddrP fa28_4 rfl) ?_
          first
          | refine Ops.y rfl rfl rfl hst.ctx (Y.load 0 Try.isAgg3 rfl rfl rfl) ?_
          | refine Ops.y rfl rfl rfl hst.ctx (Y.load 1 Try.isAgg3 rfl rfl rfl) ?_
          first
          | refine Ops.y rfl rfl rfl hst.ctx (Y.fieldAddr fa28_4 rfl) ?_
          | refine Ops.y rfl rfl rfl hst.ctx (Y.fieldAddrP fa28_4 rfl) ?_
          first
          | refine Ops.y rfl rfl rfl hst.ctx (Y.load 0 Try.isAgg3 rfl rfl rfl) ?_
          | refine Ops.y rfl rfl rfl hst.ctx (Y.load 1 Try.isAgg3 rfl rfl rfl) ?_
          refine Ops.yb rfl rfl rfl hst.ctx (Y.eql rfl rfl) (fun b36 hb36 => ?_)
          refine Ops.y rfl rfl rfl hst.ctx (Y.pick (.bool _) rfl rfl) ?_
          refine Ops.y rfl rfl rfl hst.ctx (Y.moveB rfl) ?_
          cases b36
          · replace hb36 := of_decide_eq_false hb36.symm
            refine Ops.no rfl rfl rfl ?_
            refine Ops.no rfl rfl rfl ?_
            refine Ops.no rfl rfl rfl ?_
            refine Ops.no rfl rfl rfl ?_
            refine Ops.no rfl rfl rfl ?_
            refine Ops.y rfl rfl rfl hst.ctx (Y.pick (.bool _) rfl rfl) ?_
            refine Ops.y rfl rfl rfl hst.ctx (Y.moveB rfl) ?_
            refine Ops.no rfl rfl rfl ?_
            refine Ops.no rfl rfl rfl ?_
            refine Ops.no rfl rfl rfl ?_
            refine Ops.no rfl rfl rfl ?_
            refine Ops.no rfl rfl rfl ?_
            refine Ops.y rfl rfl rfl hst.ctx (Y.pick (.bool _) rfl rfl) ?_
            refine Ops.y rfl rfl rfl hst.ctx (Y.moveB rfl) ?_
            refine Ops.no rfl rfl rfl ?_
            refine Ops.no rfl rfl rfl ?_
            refine Ops.no rfl rfl rfl ?_
            refine Ops.no rfl rfl rfl ?_
            refine Ops.no rfl rfl rfl ?_
            refine Ops.y rfl rfl rfl hst.ctx (Y.pick (.bool _) rfl rfl) ?_
            refine Ops.y rfl rfl rfl hst.ctx (Y.moveB rfl) ?_
            refine Ops.no rfl rfl rfl ?_
            refine Ops.no rfl rfl rfl ?_
            refine Ops.no rfl rfl rfl ?_
            refine Ops.no rfl rfl rfl ?_
            refine Ops.no rfl rfl rfl ?_
            refine Ops.y rfl rfl rfl hst.ctx (Y.pick (.bool _) rfl rfl) ?_
            refine Ops.y rfl rfl rfl hst.ctx (Y.moveB rfl) ?_
            refine Ops.no rfl rfl rfl ?_
            refine Ops.no rfl rfl rfl ?_
            refine Ops.no rfl rfl rfl ?_
            refine Ops.no rfl rfl rfl ?_
            refine Ops.no rfl rfl rfl ?_
            refine Ops.y rfl rfl rfl hst.ctx (Y.pick (.bool _) rfl rfl) ?_
            refine Ops.y rfl rfl rfl hst.ctx (Y.moveB rfl) ?_
            refine Ops.no rfl rfl rfl ?_
            refine Ops.no rfl rfl rfl ?_
            refine Ops.no rfl rfl rfl ?_
            refine Ops.no rfl rfl rfl ?_
            refine Ops.no rfl rfl rfl ?_
            refine Ops.y rfl rfl rfl hst.ctx (Y.pick (.bool _) rfl rfl) ?_
            refine Ops.y rfl rfl rfl hst.ctx (Y.assignB rfl) ?_
            refine Ops.done rfl ?_
            refine W.ret rfl ?_
            refine ⟨_, Rslt.one Try.results20 rfl, ?_⟩
            exact ⟨_, rfl, (decide_eq_false (fun h => hb36 h.2.2.2.2.1)).symm, hst.drop.drop⟩
          · replace hb36 := of_decide_eq_true hb36.symm
            first
            | refine Ops.y rfl rfl rfl hst.ctx (Y.fieldAddr fa28_5 rfl) ?_
            | refine Ops.y rfl rfl rfl hst.ctx (Y.fieldAddrP fa28_5 rfl) ?_
            first
            | refine Ops.y rfl rfl rfl hst.ctx (Y.load 0 Try.isAgg4 rfl rfl rfl) ?_
            | refine Ops.y rfl rfl rfl hst.ctx (Y.load 1 Try.isAgg4 rfl rfl rfl) ?_
            first
            | refine Ops.y rfl rfl rfl hst.ctx (Y.fieldAddr fa28_5 rfl) ?_
            | refine Ops.y rfl rfl rfl hst.ctx (Y.fieldAddrP fa28_5 rfl) ?_
            first
            | refine Ops.y rfl rfl rfl hst.ctx (Y.load 0 Try.isAgg4 rfl rfl rfl) ?_
            | refine Ops.y rfl rfl rfl hst.ctx (Y.load 1 Try.isAgg4 rfl rfl rfl) ?_
            refine Ops.yb rfl rfl rfl hst.ctx (Y.eqB Try.underlying4 rfl rfl) (fun b43 hb43 => ?_)
            refine Ops.y rfl rfl rfl hst.ctx (Y.pick (.bool _) rfl rfl) ?_
            refine Ops.y rfl rfl rfl hst.ctx (Y.moveB rfl) ?_
            cases b43
            · replace hb43 := of_decide_eq_false hb43.symm
              refine Ops.no rfl rfl rfl ?_
              refine Ops.no rfl rfl rfl ?_
              refine Ops.no rfl rfl rfl ?_
              refine Ops.no rfl rfl rfl ?_
              refine Ops.no rfl rfl rfl ?_
              refine Ops.y rfl rfl rfl hst.ctx (Y.pick (.bool _) rfl rfl) ?_
              refine Ops.y rfl rfl rfl hst.ctx (Y.moveB rfl) ?_
              refine Ops.no rfl rfl rfl ?_
              refine Ops.no rfl rfl rfl ?_
              refine Ops.no rfl rfl rfl ?_
              refine Ops.no rfl rfl rfl ?_
              refine Ops.no rfl rfl rfl ?_
              refine Ops.y rfl rfl rfl hst.ctx (Y.pick (.bool _) rfl rfl) ?_
              refine Ops.y rfl rfl rfl hst.ctx (Y.moveB rfl) ?_
              refine Ops.no rfl rfl rfl ?_
              refine Ops.no rfl rfl rfl ?_
              refine Ops.no rfl rfl rfl ?_
              refine Ops.no rfl rfl rfl ?_
              refine Ops.no rfl rfl rfl ?_
              refine Ops.y rfl rfl rfl hst.ctx (Y.pick (.bool _) rfl rfl) ?_
              refine Ops.y rfl rfl rfl hst.ctx (Y.moveB rfl) ?_
              refine Ops.no rfl rfl rfl ?_
              refine Ops.no rfl rfl rfl ?_
              refine Ops.no rfl rfl rfl ?_
              refine Ops.no rfl rfl rfl ?_
              refine Ops.no rfl rfl rfl ?_
              refine Ops.y rfl rfl rfl hst.ctx (Y.pick (.bool _) rfl rfl) ?_
              refine Ops.y rfl rfl rfl hst.ctx (Y.moveB rfl) ?_
              refine Ops.no rfl rfl rfl ?_
              refine Ops.no rfl rfl rfl ?_
              refine Ops.no rfl rfl rfl ?_
              refine Ops.no rfl rfl rfl ?_
              refine Ops.no rfl rfl rfl ?_
              refine Ops.y rfl rfl rfl hst.ctx (Y.pick (.bool _) rfl rfl) ?_
              refine Ops.y rfl rfl rfl hst.ctx (Y.assignB rfl) ?_
              refine Ops.done rfl ?_
              refine W.ret rfl ?_
              refine ⟨_, Rslt.one Try.results20 rfl, ?_⟩
              exact ⟨_, rfl, (decide_eq_false (fun h => hb43 h.2.2.2.2.2.1)).symm, hst.drop.drop⟩
            · replace hb43 := of_decide_eq_true hb43.symm
              first
              | refine Ops.y rfl rfl rfl hst.ctx (Y.fieldAddr fa28_6 rfl) ?_
              | refine Ops.y rfl rfl rfl hst.ctx (Y.fieldAddrP fa28_6 rfl) ?_
              first
              | refine Ops.y rfl rfl rfl hst.ctx (Y.load 0 Try.isAgg4 rfl rfl rfl) ?_
              | refine Ops.y rfl rfl rfl hst.ctx (Y.load 1 Try.isAgg4 rfl rfl rfl) ?_
              first
              | refine Ops.y rfl rfl rfl hst.ctx (Y.fieldAddr fa28_6 rfl) ?_
              | refine Ops.y rfl rfl rfl hst.ctx (Y.fieldAddrP fa28_6 rfl) ?_
              first
              | refine Ops.y rfl rfl rfl hst.ctx (Y.load 0 Try.isAgg4 rfl rfl rfl) ?_
              | refine Ops.y rfl rfl rfl hst.ctx (Y.load 1 Try.isAgg4 rfl rfl rfl) ?_
              refine Ops.yb rfl rfl rfl hst.ctx (Y.eqB Try.underlying4 rfl rfl) (fun b50 hb50 => ?_)
              refine Ops.y rfl rfl rfl hst.ctx (Y.pick (.bool _) rfl rfl) ?_
              refine Ops.y rfl rfl rfl hst.ctx (Y.moveB rfl) ?_
              cases b50
              · replace hb50 := of_decide_eq_false hb50.symm
                refine Ops.no rfl rfl rfl ?_
                refine Ops.no rfl rfl rfl ?_
                refine Ops.no rfl rfl rfl ?_
                refine Ops.no rfl rfl rfl ?_
                refine Ops.no rfl rfl rfl ?_
                refine Ops.y rfl rfl rfl hst.ctx (Y.pick (.bool _) rfl rfl) ?_
                refine Ops.y rfl rfl rfl hst.ctx (Y.moveB rfl) ?_
                refine Ops.no rfl rfl rfl ?_
                refine Ops.no rfl rfl rfl ?_
                refine Ops.no rfl rfl rfl ?_
                refine Ops.no rfl rfl rfl ?_
                refine Ops.no rfl rfl rfl ?_
                refine Ops.y rfl rfl rfl hst.ctx (Y.pick (.bool _) rfl rfl) ?_
                refine Ops.y rfl rfl rfl hst.ctx (Y.moveB rfl) ?_
                refine Ops.no rfl rfl rfl ?_
                refine Ops.no rfl rfl rfl ?_
                refine Ops.no rfl rfl rfl ?_
                refine Ops.no rfl rfl rfl ?_
                refine Ops.no rfl rfl rfl ?_
                refine Ops.y rfl rfl rfl hst.ctx (Y.pick (.bool _) rfl rfl) ?_
                refine Ops.y rfl rfl rfl hst.ctx (Y.moveB rfl) ?_
                refine Ops.no rfl rfl rfl ?_
                refine Ops.no rfl rfl rfl ?_
                refine Ops.no rfl rfl rfl ?_
                refine Ops.no rfl rfl rfl ?_
                refine Ops.no rfl rfl rfl ?_
                refine Ops.y rfl rfl rfl hst.ctx (Y.pick (.bool _) rfl rfl) ?_
                refine Ops.y rfl rfl rfl hst.ctx (Y.assignB rfl) ?_
                refine Ops.done rfl ?_
                refine W.ret rfl ?_
                refine ⟨_, Rslt.one Try.results20 rfl, ?_⟩
                exact ⟨_, rfl, (decide_eq_false (fun h => hb50 h.2.2.2.2.2.2.1)).symm, hst.drop.drop⟩
              · replace hb50 := of_decide_eq_true hb50.symm
                first
                | refine Ops.y rfl rfl rfl hst.ctx (Y.fieldAddr fa28_7 rfl) ?_
                | refine Ops.y rfl rfl rfl hst.ctx (Y.fieldAddrP fa28_7 rfl) ?_
                first
                | refine Ops.y rfl rfl rfl hst.ctx (Y.loadA 0 Try.isAgg23 Try.sizeOf23 rfl rfl rfl rfl) ?_
                | refine Ops.y rfl rfl rfl hst.ctx (Y.loadA 1 Try.isAgg23 Try.sizeOf23 rfl rfl rfl rfl) ?_
                first
                | refine Ops.y rfl rfl rfl hst.ctx (Y.fieldAddr fa28_7 rfl) ?_
                | refine Ops.y rfl rfl rfl hst.ctx (Y.fieldAddrP fa28_7 rfl) ?_
                first
                | refine Ops.y rfl rfl rfl hst.ctx (Y.loadA 0 Try.isAgg23 Try.sizeOf23 rfl rfl rfl rfl) ?_
                | refine Ops.y rfl rfl rfl hst.ctx (Y.loadA 1 Try.isAgg23 Try.sizeOf23 rfl rfl rfl rfl) ?_
                refine Ops.yb rfl rfl rfl hst.ctx (Y.eq2 eqg_span eq2_span rfl rfl) (fun b57 hb57 => ?_)
                refine Ops.y rfl rfl rfl hst.ctx (Y.pick (.bool _) rfl rfl) ?_
                refine Ops.y rfl rfl rfl hst.ctx (Y.moveB rfl) ?_
                cases b57
                · replace hb57 := of_decide_eq_false hb57.symm
                  refine Ops.no rfl rfl rfl ?_
                  refine Ops.no rfl rfl rfl ?_
                  refine Ops.no rfl rfl rfl ?_
                  refine Ops.no rfl rfl rfl ?_
                  refine Ops.no rfl rfl rfl ?_
                  refine Ops.y rfl rfl rfl hst.ctx (Y.pick (.bool _) rfl rfl) ?_
                  refine Ops.y rfl rfl rfl hst.ctx (Y.moveB rfl) ?_
                  refine Ops.no rfl rfl rfl ?_
                  refine Ops.no rfl rfl rfl ?_
                  refine Ops.no rfl rfl rfl ?_
                  refine Ops.no rfl rfl rfl ?_
                  refine Ops.no rfl rfl rfl ?_
                  refine Ops.y rfl rfl rfl hst.ctx (Y.pick (.bool _) rfl rfl) ?_
                  refine Ops.y rfl rfl rfl hst.ctx (Y.moveB rfl) ?_
                  refine Ops.no rfl rfl rfl ?_
                  refine Ops.no rfl rfl rfl ?_
                  refine Ops.no rfl rfl rfl ?_
                  refine Ops.no rfl rfl rfl ?_
                  refine Ops.no rfl rfl rfl ?_
                  refine Ops.y rfl rfl rfl hst.ctx (Y.pick (.bool _) rfl rfl) ?_
                  refine Ops.y rfl rfl rfl hst.ctx (Y.assignB rfl) ?_
                  refine Ops.done rfl ?_
                  refine W.ret rfl ?_
                  refine ⟨_, Rslt.one Try.results20 rfl, ?_⟩
                  exact ⟨_, rfl, (decide_eq_false (fun h => hb57 h.2.2.2.2.2.2.2.1)).symm, hst.drop.drop⟩
                · replace hb57 := of_decide_eq_true hb57.symm
                  first
                  | refine Ops.y rfl rfl rfl hst.ctx (Y.fieldAddr fa28_8 rfl) ?_
                  | refine Ops.y rfl rfl rfl hst.ctx (Y.fieldAddrP fa28_8 rfl) ?_
                  first
                  | refine Ops.y rfl rfl rfl hst.ctx (Y.load 0 Try.isAgg3 rfl rfl rfl) ?_
                  | refine Ops.y rfl rfl rfl hst.ctx (Y.load 1 Try.isAgg3 rfl rfl rfl) ?_
                  first
                  | refine Ops.y rfl rfl rfl hst.ctx (Y.fieldAddr fa28_8 rfl) ?_
                  | refine Ops.y rfl rfl rfl hst.ctx (Y.fieldAddrP fa28_8 rfl) ?_
                  first
                  | refine Ops.y rfl rfl rfl hst.ctx (Y.load 0 Try.isAgg3 rfl rfl rfl) ?_
                  | refine Ops.y rfl rfl rfl hst.ctx (Y.load 1 Try.isAgg3 rfl rfl rfl) ?_
                  refine Ops.yb rfl rfl rfl hst.ctx (Y.eql rfl rfl) (fun b64 hb64 => ?_)
                  refine Ops.y rfl rfl rfl hst.ctx (Y.pick (.bool _) rfl rfl) ?_
                  refine Ops.y rfl rfl rfl hst.ctx (Y.moveB rfl) ?_
                  cases b64
                  · replace hb64 := of_decide_eq_false hb64.symm
                    refine Ops.no rfl rfl rfl ?_
                    refine Ops.no rfl rfl rfl ?_
                    refine Ops.no rfl rfl rfl ?_
                    refine Ops.no rfl rfl rfl ?_
                    refine Ops.no rfl rfl rfl ?_
                    refine Ops.y rfl rfl rfl hst.ctx (Y.pick (.bool _) rfl rfl) ?_
                    refine Ops.y rfl rfl rfl hst.ctx (Y.moveB rfl) ?_
                    refine Ops.no rfl rfl rfl ?_
                    refine Ops.no rfl rfl rfl ?_
                    refine Ops.no rfl rfl rfl ?_
                    refine Ops.no rfl rfl rfl ?_
                    refine Ops.no rfl rfl rfl ?_
                    refine Ops.y rfl rfl rfl hst.ctx (Y.pick (.bool _) rfl rfl) ?_
                    refine Ops.y rfl rfl rfl hst.ctx (Y.assignB rfl) ?_
                    refine Ops.done rfl ?_
                    refine W.ret rfl ?_
                    refine ⟨_, Rslt.one Try.results20 rfl, ?_⟩
                    exact ⟨_, rfl, (decide_eq_false (fun h => hb64 h.2.2.2.2.2.2.2.2.1)).symm, hst.drop.drop⟩
                  · replace hb64 := of_decide_eq_true hb64.symm
                    first
                    | refine Ops.y rfl rfl rfl hst.ctx (Y.fieldAddr fa28_9 rfl) ?_
                    | refine Ops.y rfl rfl rfl hst.ctx (Y.fieldAddrP fa28_9 rfl) ?_
                    first
                    | refine Ops.y rfl rfl rfl hst.ctx (Y.loadA 0 Try.isAgg25 Try.sizeOf25 rfl rfl rfl rfl) ?_
                    | refine Ops.y rfl rfl rfl hst.ctx (Y.loadA 1 Try.isAgg25 Try.sizeOf25 rfl rfl rfl rfl) ?_
                    first
                    | refine Ops.y rfl rfl rfl hst.ctx (Y.fieldAddr fa28_9 rfl) ?_
                    | refine Ops.y rfl rfl rfl hst.ctx (Y.fieldAddrP fa28_9 rfl) ?_
                    first
                    | refine Ops.y rfl rfl rfl hst.ctx (Y.loadA 0 Try.isAgg25 Try.sizeOf25 rfl rfl rfl rfl) ?_
                    | refine Ops.y rfl rfl rfl hst.ctx (Y.loadA 1 Try.isAgg25 Try.sizeOf25 rfl rfl rfl rfl) ?_
                    refine Ops.yb rfl rfl rfl hst.ctx (Y.eq2 eqg_stamp eq2_stamp rfl rfl) (fun b71 hb71 => ?_)
                    refine Ops.y rfl rfl rfl hst.ctx (Y.pick (.bool _) rfl rfl) ?_
                    refine Ops.y rfl rfl rfl hst.ctx (Y.moveB rfl) ?_
                    cases b71
                    · replace hb71 := of_decide_eq_false hb71.symm
                      refine Ops.no rfl rfl rfl ?_
                      refine Ops.no rfl rfl rfl ?_
                      refine Ops.no rfl rfl rfl ?_
                      refine Ops.no rfl rfl rfl ?_
                      refine Ops.no rfl rfl rfl ?_
                      refine Ops.y rfl rfl rfl hst.ctx (Y.pick (.bool _) rfl rfl) ?_
                      refine Ops.y rfl rfl rfl hst.ctx (Y.assignB rfl) ?_
                      refine Ops.done rfl ?_
                      refine W.ret rfl ?_
                      refine ⟨_, Rslt.one Try.results20 rfl, ?_⟩
                      exact ⟨_, rfl, (decide_eq_false (fun h => hb71 h.2.2.2.2.2.2.2.2.2.1)).symm, hst.drop.drop⟩
                    · replace hb71 := of_decide_eq_true hb71.symm
                      first
                      | refine Ops.y rfl rfl rfl hst.ctx (Y.fieldAddr fa28_10 rfl) ?_
                      | refine Ops.y rfl rfl rfl hst.ctx (Y.fieldAddrP fa28_10 rfl) ?_
                      first
                      | refine Ops.y rfl rfl rfl hst.ctx (Y.load 0 Try.isAgg26 rfl rfl rfl) ?_
                      | refine Ops.y rfl rfl rfl hst.ctx (Y.load 1 Try.isAgg26 rfl rfl rfl) ?_
                      first
                      | refine Ops.y rfl rfl rfl hst.ctx (Y.fieldAddr fa28_10 rfl) ?_
                      | refine Ops.y rfl rfl rfl hst.ctx (Y.fieldAddrP fa28_10 rfl) ?_
                      first
                      | refine Ops.y rfl rfl rfl hst.ctx (Y.load 0 Try.isAgg26 rfl rfl rfl) ?_
                      | refine Ops.y rfl rfl rfl hst.ctx (Y.load 1 Try.isAgg26 rfl rfl rfl) ?_
                      refine Ops.x rfl rfl rfl (X.call cf21 rfl ?_)
                      refine use_call (tables_any x.tab y.tab h63 _ _ _ _ _ _ _ _ _ hst ((hs.cons _).cons _) ((ht.cons _).cons _)) rfl ?_; clear hst; rintro e w1 ⟨b78, rfl, hb78, hst⟩; refine ⟨_, rfl, ?_⟩
                      refine Ops.y rfl rfl rfl hst.ctx (Y.pick (.bool _) rfl rfl) ?_
                      refine Ops.y rfl rfl rfl hst.ctx (Y.assignB rfl) ?_
                      refine Ops.done rfl ?_
                      refine W.ret rfl ?_
                      cases b78
                      · replace hb78 := of_decide_eq_false hb78.symm
                        refine ⟨_, Rslt.one Try.results20 rfl, ?_⟩
                        exact ⟨_, rfl, (decide_eq_false (fun h => hb78 (h.2.2.2.2.2.2.2.2.2.2))).symm, hst.drop.drop⟩
                      · replace hb78 := of_decide_eq_true hb78.symm
                        refine ⟨_, Rslt.one Try.results20 rfl, ?_⟩
                        exact ⟨_, rfl, (decide_eq_true ⟨hb9, hb15, hb22, hb29, hb36, hb43, hb50, hb57, hb64, hb71, hb78⟩).symm, hst.drop.drop⟩
end Go.Proofs.Ytkbkgpedpaodlaa.W
