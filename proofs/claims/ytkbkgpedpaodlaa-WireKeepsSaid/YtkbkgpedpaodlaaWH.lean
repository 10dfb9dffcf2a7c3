/- The walk of the reader's nums. -/
import Derived.Test.YtkbkgpedpaodlaaWD
set_option linter.unusedVariables false
set_option linter.unusedSimpArgs false
namespace Go.Proofs.Ytkbkgpedpaodlaa.W
open Go.RowKit Go.Proofs.Ytkbkgpedpaodlaa.K Go.Proofs.Ytkbkgpedpaodlaa.CM
/-- What bytes tell as a number, the greatest first. -/
def rdn (l : List UInt8) : Nat := l.foldl (fun a c => a * 256 + c.toNat) 0
theorem rdn_snoc (l : List UInt8) (c : UInt8) : rdn (l ++ [c]) = rdn l * 256 + c.toNat := by simp [rdn]
theorem rdn_lt (l : List UInt8) : rdn l < 256 ^ l.length := by
  suffices H : ∀ (l : List UInt8) (a : Nat), l.foldl (fun a c => a * 256 + c.toNat) a < (a + 1) * 256 ^ l.length by
    have := H l 0
    simpa [rdn] using this
  intro l
  induction l with
  | nil => intro a; simp
  | cons c l ih =>
    intro a
    have h1 := ih (a * 256 + c.toNat)
    have h2 : c.toNat < 256 := UInt8.toNat_lt c
    simp only [List.foldl_cons, List.length_cons]
    refine Nat.lt_of_lt_of_le h1 ?_
    rw [Nat.pow_succ, Nat.mul_comm (256 ^ l.length) 256, ← Nat.mul_assoc]
    exact Nat.mul_le_mul_right _ (by omega)
def rd8 (l : List UInt8) : Int := IntKind.i64.wrap (rdn l : Int)
theorem or_val (a : Nat) (c : UInt8) (h : a < 72057594037927936) :
    Value.int .u64 (IntKind.u64.wrap (BitVec.ofInt IntKind.u64.bits (IntKind.u64.wrap ((a : Int) * 2 ^ (min ((8 : Int)).toNat IntKind.u64.bits))) ||| BitVec.ofInt IntKind.u64.bits (IntKind.u64.wrap (c.toNat : Int))).toNat) = .int .u64 ((a * 256 + c.toNat : Nat) : Int) := by
  have hc : c.toNat < 256 := UInt8.toNat_lt c
  have e1 : IntKind.u64.wrap ((a : Int) * 2 ^ (min ((8 : Int)).toNat IntKind.u64.bits)) = ((256 * a : Nat) : Int) := by
    rw [wrap_u64]
    show (a : Int) * 256 % 18446744073709551616 = _
    omega
  have e2 : IntKind.u64.wrap (c.toNat : Int) = (c.toNat : Int) := by rw [wrap_u64]; omega
  rw [e1, e2]
  refine congrArg (Value.int .u64) ?_
  show IntKind.u64.wrap (((BitVec.ofInt 64 ((256 * a : Nat) : Int) ||| BitVec.ofInt 64 ((c.toNat : Nat) : Int)).toNat : Nat) : Int) = _
  rw [BitVec.ofInt_natCast, BitVec.ofInt_natCast, BitVec.toNat_or, BitVec.toNat_ofNat, BitVec.toNat_ofNat, Nat.mod_eq_of_lt (by omega), Nat.mod_eq_of_lt (by omega)]
  have h3 := Nat.two_pow_add_eq_or_of_lt (i := 8) (b := c.toNat) hc a
  rw [show (2 : Nat) ^ 8 = 256 from rfl] at h3
  rw [← h3, wrap_u64]
  omega
theorem getD_memN {l : List Nat} {k : Nat} (h : k < l.length) : l.getD k 0 ∈ l := by simp [h]
theorem _root_.Go.Proofs.Ytkbkgpedpaodlaa.K.Rds.any {L G : List Res} {v : Value} {n : Nat} {xs : List Value} (h : Rds [] G v n xs) : Rds L G v n xs := h.mono (by simp) (fun r h => h)
def ptrs (b : Nat) (offs : List Nat) : List Value := offs.map fun o => .pointer (some ⟨b, o, none⟩)
/-- Cells into which the first k numbers were read. -/
def fk (cs : List Value) (offs : List Nat) (s : List UInt8) : Nat → List Value
  | 0 => cs
  | k + 1 => (fk cs offs s k).set (offs.getD k 0) (.int .i64 (rd8 ((s.drop (8 * k)).take 8)))
theorem fk_length (cs : List Value) (offs : List Nat) (s : List UInt8) (k : Nat) : (fk cs offs s k).length = cs.length := by
  induction k with
  | zero => rfl
  | succ k ih => simp [fk, ih]
theorem ptrs_get {b : Nat} {offs : List Nat} {k : Nat} (h : k < offs.length) : (ptrs b offs)[(k : Int).toNat * 1]? = some (.pointer (some ⟨b, offs.getD k 0, none⟩)) := by
  simp [ptrs, h]
theorem bvs_get {l : List UInt8} {k : Nat} (h : k < l.length) : (bvs l)[(k : Int).toNat * 1]? = some (.int .u8 ((l.getD k 0).toNat : Int)) := by
  simp [bvs, h, bv]
theorem take_snoc8 {l : List UInt8} {k : Nat} (h : k < l.length) : l.take (k + 1) = l.take k ++ [l.getD k 0] := by
  rw [List.take_succ_eq_append_getElem h]
  simp [h]
theorem fa64_0 (a : Addr) (w : World) : (Instr.fieldAt 64 (.pointer (some a)) 0).run Try.prog w = .ok (.pointer (some (a.add 0))) w := by
  simp [Instr.fieldAt, Instr.sureAddr, go_sem]

set_option maxHeartbeats 2000000 in
theorem rnums_any (br bt : Nat) (offs : List Nat) (cs : List Value) (te : TypeId) (s : List UInt8) (A AL : Option Addr) (cp cl : Nat) (w0 w : World) (F0 : List Nat) (L G : List Res)
    (hst : St w0 F0 w (cellsR br [.slice A s.length cp] 64 :: cellsR bt cs te :: L) G) (hs : Rds [] G (.slice A s.length cp) s.length (bvs s)) (hl : Rds L G (.slice AL offs.length cl) offs.length (ptrs bt offs))
    (h8 : 8 * offs.length ≤ s.length) (hmax : s.length ≤ 1000000) (hof : ∀ o ∈ offs, o < cs.length) :
    Calls Try.prog 31 #[.pointer (some ⟨br, 0, none⟩), .slice AL offs.length cl] w fun e w' => e = .returned (.tuple #[]) ∧ ∃ A' cp', Rds [] G (.slice A' (s.drop (8 * offs.length)).length cp') (s.drop (8 * offs.length)).length (bvs (s.drop (8 * offs.length))) ∧
      St w0 F0 w' (cellsR br [.slice A' (s.drop (8 * offs.length)).length cp'] 64 :: cellsR bt (fk cs offs s offs.length) te :: L) G := by
  refine W.func Try.func31 rfl Try.ntmps31 rfl ?_
  refine W.seq rfl ?_
  refine W.region rfl ?_
  refine Ops.y rfl rfl rfl hst.ctx (Y.moveS rfl) ?_
  refine Ops.y rfl rfl rfl hst.ctx (Y.lenS Try.underlying75 rfl) ?_
  refine Ops.y rfl rfl rfl hst.ctx (Y.moveI rfl) ?_
  refine Ops.done rfl ?_
  refine W.block rfl ?_
  refine W.loop (γ := Nat) [(0, .pointer _), (9, .slice _ _ _), (10, .int _ _)] (fun k => [(11, .int .i64 (k : Int))]) (fun k w => k ≤ offs.length ∧ ∃ A' cp', Rds [] G (.slice A' (s.drop (8 * k)).length cp') (s.drop (8 * k)).length (bvs (s.drop (8 * k))) ∧ St w0 F0 w (cellsR br [.slice A' (s.drop (8 * k)).length cp'] 64 :: cellsR bt (fk cs offs s k) te :: L) G) (fun k => offs.length - k) (0) rfl ⟨rfl, rfl, rfl, trivial⟩ ?_ ?_ ?_
  · exact ⟨rfl, trivial⟩
  · exact ⟨by omega, A, cp, by simpa using hs, by simpa [fk] using hst⟩
  · clear hst; rintro k j w1 ⟨hk, A', cp', hs', hst⟩
    refine W.seq rfl ?_
    refine W.region rfl ?_
    refine Ops.yb rfl rfl rfl hst.ctx (Y.lss rfl rfl) (fun b12 hb12 => ?_)
    refine Ops.done rfl ?_
    refine W.seq rfl ?_
    cases b12
    · replace hb12 := of_decide_eq_false hb12.symm
      refine W.condF rfl rfl ?_
      refine W.exit rfl ?_
      refine ⟨_, Rslt.none Try.results31, ?_⟩
      have hkk : k = offs.length := by omega
      subst hkk
      exact ⟨rfl, A', cp', hs', hst⟩
    · replace hb12 := of_decide_eq_true hb12.symm
      refine W.condT rfl rfl ?_
      refine W.skip rfl ?_
      refine W.seq rfl ?_
      refine W.block rfl ?_
      refine W.seq rfl ?_
      have hk1 : k < offs.length := by omega
      have hlen : (s.drop (8 * k)).length = s.length - 8 * k := List.length_drop ..
      refine W.region rfl ?_
      refine Ops.y rfl rfl rfl hst.ctx (Y.indexAddr Try.underlying75 Try.sizeOf66 rfl rfl ((((hl.cons _).cons _).sl hst).ne (by simp [ptrs]; omega)) (by omega)) ?_
      refine Ops.y rfl rfl rfl hst.ctx (Y.loadSl Try.isAgg66 rfl ((hl.cons _).cons _) (ptrs_get hk1)) ?_
      refine Ops.y rfl rfl rfl hst.ctx (Y.assignP rfl) ?_
      refine Ops.done rfl ?_
      refine W.seq rfl ?_
      refine W.region rfl ?_
      refine Ops.y rfl rfl rfl hst.ctx (Y.assignI rfl) ?_
      refine Ops.done rfl ?_
      refine W.seq rfl ?_
      refine W.seq rfl ?_
      have hcap : 8 ≤ cp' := by
        obtain ⟨_, _, he, hc, _⟩ := (hs'.any).sl hst
        injection he with _ _ he
        omega
      have hs8 : Rds [] G (.slice A' 8 cp') 8 (bvs ((s.drop (8 * k)).take 8)) := by
        have := hs'.takeN (size := 1) (k := 8) (by rw [bvs_length, Nat.mul_one]) (by omega)
        simpa [bvs, List.map_take] using this
      have hl8 : ((s.drop (8 * k)).take 8).length = 8 := by rw [List.length_take]; omega
      refine W.region rfl ?_
      refine Ops.y rfl rfl rfl hst.ctx (Y.moveP rfl) ?_
      refine Ops.y rfl rfl rfl hst.ctx (Y.nilCheck rfl) ?_
      first
      | refine Ops.y rfl rfl rfl hst.ctx (Y.fieldAddr fa64_0 rfl) ?_
      | refine Ops.y rfl rfl rfl hst.ctx (Y.fieldAddrP fa64_0 rfl) ?_
      refine Ops.y rfl rfl rfl hst.ctx (Y.load 0 Try.isAgg41 rfl rfl rfl) ?_
      refine Ops.y rfl rfl rfl hst.ctx (Y.sliceHi Try.underlying41 Try.sizeOf5 rfl rfl (m := 8) rfl hcap) ?_
      refine Ops.y rfl rfl rfl hst.ctx (Y.lenS Try.underlying41 rfl) ?_
      refine Ops.y rfl rfl rfl hst.ctx (Y.moveI rfl) ?_
      refine Ops.done rfl ?_
      refine W.block rfl ?_
      refine W.loop (γ := Nat) [(0, .pointer _), (5, .pointer _), (9, .slice _ _ _), (10, .int _ _), (11, .int _ _), (19, .slice _ _ _), (20, .int _ _)] (fun j => [(6, .int .u64 (rdn (((s.drop (8 * k)).take 8).take j) : Int)), (21, .int .i64 (j : Int))]) (fun j w => j ≤ 8 ∧ St w0 F0 w (cellsR br [.slice A' (s.drop (8 * k)).length cp'] 64 :: cellsR bt (fk cs offs s k) te :: L) G) (fun j => 8 - j) (0) rfl ⟨rfl, rfl, rfl, rfl, rfl, rfl, rfl, trivial⟩ ?_ ?_ ?_
      · exact ⟨rfl, rfl, trivial⟩
      · exact ⟨by omega, hst⟩
      · clear hst; rintro j i w3 ⟨hj8, hst⟩
        refine W.seq rfl ?_
        refine W.region rfl ?_
        refine Ops.yb rfl rfl rfl hst.ctx (Y.lss rfl rfl) (fun b22 hb22 => ?_)
        refine Ops.done rfl ?_
        refine W.seq rfl ?_
        cases b22
        · replace hb22 := of_decide_eq_false hb22.symm
          refine W.condF rfl rfl ?_
          refine W.exit rfl ?_
          have hj : j = 8 := by omega
          subst hj
          refine W.drawn rfl (by kernel_rfl) (Ctx _ _ (_) (_)) [10, 11, 12, 13] (.op 0 0 (.op 1 2 (.op 2 0 (.op 3 0 (.op 4 2 (.op 5 2 (.op 6 2 (.op 7 0 (.op 8 2 (.op 9 0 (.op 10 1 (.op 11 1 (.op 12 1 (.op 13 1 .nil)))))))))))))) rfl (by kernel_rfl) hst.drew.ctx ?_
          replace hst := hst.drew
          generalize World.drew _ = wd at hst ⊢
          refine Drw.y rfl rfl rfl hst.ctx (Y.moveP rfl) ?_
          refine Drw.ya rfl rfl rfl hst.ctx (Y.moveP rfl) ?_
          refine Drw.y rfl rfl rfl hst.ctx (Y.moveI rfl) ?_
          refine Drw.y rfl rfl rfl hst.ctx (Y.conv Try.underlying3 Try.underlying71 rfl) ?_
          refine Drw.ya rfl rfl rfl hst.ctx (Y.moveP rfl) ?_
          refine Drw.ya rfl rfl rfl hst.ctx (Y.nilCheck rfl) ?_
          first
          | refine Drw.ya rfl rfl rfl hst.ctx (Y.fieldAddr fa64_0 rfl) ?_
          | refine Drw.ya rfl rfl rfl hst.ctx (Y.fieldAddrP fa64_0 rfl) ?_
          refine Drw.y rfl rfl rfl hst.ctx (Y.load 0 Try.isAgg41 rfl rfl rfl) ?_
          refine Drw.ya rfl rfl rfl hst.ctx (Y.sliceLo Try.underlying41 Try.sizeOf5 rfl rfl (m := 8) rfl (by omega)) ?_
          refine Drw.y rfl rfl rfl hst.ctx (Y.nilCheck rfl) ?_
          refine Drw.z rfl rfl rfl rfl (X.store hst 1 Try.sizeOf3 rfl rfl (v := .int .i64 (rd8 (((s.drop (8 * k)).take 8).take 8))) rfl rfl (by rw [fk_length]; exact hof _ (getD_memN hk1)) rfl rfl ?_)
          clear hst; intro w910 hst
          refine Drw.zy rfl rfl rfl rfl hst.ctx (Y.nilCheck rfl) ?_
          first
          | refine Drw.zy rfl rfl rfl rfl hst.ctx (Y.fieldAddr fa64_0 rfl) ?_
          | refine Drw.zy rfl rfl rfl rfl hst.ctx (Y.fieldAddrP fa64_0 rfl) ?_
          refine Drw.z rfl rfl rfl rfl (X.storeV hst 0 (.slice _ _ _) Try.sizeOf41 rfl rfl rfl rfl (Nat.le_of_ble_eq_true rfl) rfl rfl ?_)
          clear hst; intro w913 hst
          refine Drw.done ?_
          refine W.region rfl ?_
          refine Ops.y rfl rfl rfl hst.ctx (Y.addI rfl rfl (by omega)) ?_
          refine Ops.y rfl rfl rfl hst.ctx (Y.moveI rfl) ?_
          refine Ops.done rfl ?_
          have hd := hs'.dropN (size := 1) (k := 8) (by rw [bvs_length, Nat.mul_one]) (by omega)
          have hdl : (s.drop (8 * (k + 1))).length = (s.drop (8 * k)).length - 8 := by rw [List.length_drop, List.length_drop]; omega
          refine ⟨k + 1, ⟨rfl, trivial⟩, ⟨rfl, rfl, rfl, trivial⟩, ⟨by omega, resl A' cp' 8 1, cp' - 8, ?_, ?_⟩, by omega⟩
          · rw [hdl]
            have e : bvs (s.drop (8 * (k + 1))) = (bvs (s.drop (8 * k))).drop (8 * 1) := by simp [bvs, List.map_drop, Nat.mul_add]
            rw [e]; exact hd
          · rw [hdl]
            rw [List.take_of_length_le (l := (s.drop (8 * k)).take 8) (by omega)] at hst
            exact hst
        · replace hb22 := of_decide_eq_true hb22.symm
          refine W.condT rfl rfl ?_
          refine W.skip rfl ?_
          refine W.seq rfl ?_
          refine W.block rfl ?_
          refine W.seq rfl ?_
          have hj1 : j < ((s.drop (8 * k)).take 8).length := by omega
          have hlt := rdn_lt (((s.drop (8 * k)).take 8).take j)
          refine W.region rfl ?_
          refine Ops.y rfl rfl rfl hst.ctx (Y.indexAddr Try.underlying41 Try.sizeOf5 rfl rfl (((hs8.any).sl hst).ne (by rw [bvs_length]; omega)) (by omega)) ?_
          refine Ops.y rfl rfl rfl hst.ctx (Y.loadSl Try.isAgg5 rfl (hs8.any) (bvs_get hj1)) ?_
          refine Ops.y rfl rfl rfl hst.ctx (Y.assignI rfl) ?_
          refine Ops.done rfl ?_
          refine W.region rfl ?_
          refine Ops.y rfl rfl rfl hst.ctx (Y.moveI rfl) ?_
          refine Ops.y rfl rfl rfl hst.ctx (Y.shl rfl rfl (by omega)) ?_
          refine Ops.y rfl rfl rfl hst.ctx (Y.moveI rfl) ?_
          refine Ops.y rfl rfl rfl hst.ctx (Y.conv Try.underlying71 Try.underlying5 rfl) ?_
          refine Ops.y rfl rfl rfl hst.ctx (Y.or rfl rfl) ?_
          refine Ops.y rfl rfl rfl hst.ctx (Y.assignI rfl) ?_
          refine Ops.done rfl ?_
          refine W.region rfl ?_
          refine Ops.y rfl rfl rfl hst.ctx (Y.addI rfl rfl (by omega)) ?_
          refine Ops.y rfl rfl rfl hst.ctx (Y.moveI rfl) ?_
          refine Ops.done rfl ?_
          have hpw : (256 : Nat) ^ (((s.drop (8 * k)).take 8).take j).length ≤ 256 ^ 7 := Nat.pow_le_pow_right (by decide) (by rw [List.length_take]; omega)
          have hor := or_val (rdn (((s.drop (8 * k)).take 8).take j)) (((s.drop (8 * k)).take 8).getD j 0) (Nat.lt_of_lt_of_le hlt (Nat.le_trans hpw (by decide)))
          rw [← rdn_snoc, ← take_snoc8 hj1] at hor
          exact ⟨j + 1, ⟨hor, rfl, trivial⟩, ⟨rfl, rfl, rfl, rfl, rfl, rfl, rfl, trivial⟩, ⟨by omega, hst⟩, by omega⟩
end Go.Proofs.Ytkbkgpedpaodlaa.W
