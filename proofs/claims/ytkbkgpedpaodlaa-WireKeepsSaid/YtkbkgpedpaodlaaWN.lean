/- The walk of the writer's nums. -/
import Derived.Test.YtkbkgpedpaodlaaWM
import Derived.Test.YtkbkgpedpaodlaaE2
import Derived.Test.YtkbkgpedpaodlaaK3
set_option linter.unusedVariables false
set_option linter.unusedSimpArgs false
namespace Go.Proofs.Ytkbkgpedpaodlaa.W
open Go.RowKit Go.Proofs.Ytkbkgpedpaodlaa.K
/-- The j-th of a number's eight bytes, the greatest first. -/
def by8 (n : Int) (j : Nat) : UInt8 := UInt8.ofNat ((n % 18446744073709551616).toNat / 2 ^ (8 * (7 - j)))
def be8 (n : Int) : List UInt8 := (List.range 8).map (by8 n)
def nums (l : List Int) : List UInt8 := l.flatMap be8
@[simp] theorem be8_length (n : Int) : (be8 n).length = 8 := by simp [be8]
theorem nums_length (l : List Int) : (nums l).length = 8 * l.length := by
  induction l with
  | nil => rfl
  | cons x l ih => simp [nums] at ih ⊢; omega
theorem nums_append (l m : List Int) : nums (l ++ m) = nums l ++ nums m := by simp [nums]
theorem be8_snoc (n : Int) (j : Nat) (h : j < 8) : (be8 n).take (j + 1) = (be8 n).take j ++ [by8 n j] := by
  rw [List.take_succ_eq_append_getElem (by simpa using h)]
  simp [be8]
theorem take_succD {l : List Int} {k : Nat} (h : k < l.length) : l.take (k + 1) = l.take k ++ [l.getD k 0] := by
  rw [List.take_succ_eq_append_getElem h]
  simp [h]
theorem nums_snoc {l : List Int} {k : Nat} (h : k < l.length) : nums (l.take (k + 1)) = nums (l.take k) ++ be8 (l.getD k 0) := by
  rw [take_succD h, nums_append]
  simp [nums]
theorem wrap_u64 (n : Int) : IntKind.u64.wrap n = n % 18446744073709551616 := by
  unfold IntKind.wrap; simp [IntKind.signed, IntKind.bits]
theorem wrap_u8 (n : Int) : IntKind.u8.wrap n = n % 256 := by
  unfold IntKind.wrap; simp [IntKind.signed, IntKind.bits]
theorem by8_val (n : Int) (j : Nat) (h : j < 8) : Value.int .u8 (IntKind.u8.wrap ((IntKind.u64.wrap n).fdiv (2 ^ (min ((8 : Int) * (7 - (j : Int))).toNat IntKind.u64.bits)))) = bv (by8 n j) := by
  have e1 : ((8 : Int) * (7 - (j : Int))).toNat = 8 * (7 - j) := by omega
  have e2 : min (8 * (7 - j)) IntKind.u64.bits = 8 * (7 - j) := by show min _ 64 = _; omega
  rw [e1, e2, wrap_u64, wrap_u8]
  unfold bv by8
  rw [UInt8.toNat_ofNat']
  have h0 : 0 ≤ n % 18446744073709551616 := Int.emod_nonneg _ (by decide)
  generalize n % 18446744073709551616 = m at *
  obtain ⟨a, rfl⟩ := Int.eq_ofNat_of_zero_le h0
  generalize 8 * (7 - j) = s
  have e3 : (2 : Int) ^ s = ((2 ^ s : Nat) : Int) := by norm_cast
  rw [e3, ← Int.ofNat_fdiv, Int.toNat_natCast]
  generalize a / 2 ^ s = q
  exact congrArg (Value.int .u8) (by rw [show (2 : Nat) ^ 8 = 256 from rfl]; omega)
theorem infoU8 : (Try.prog.info? 5).map (fun i => (i.zero, i.size, i.bytes)) = some (some (.int .u8 0), 1, 1) := by kernel_rfl
theorem bvs_one (l : List UInt8) : ∀ u ∈ bvs l, u.oneCell' = true := by
  intro u hu
  simp only [bvs, List.mem_map] at hu
  obtain ⟨x, _, rfl⟩ := hu
  rfl
theorem fa51_0 (a : Addr) (w : World) : (Instr.fieldAt 51 (.pointer (some a)) 0).run Try.prog w = .ok (.pointer (some (a.add 0))) w := by
  simp [Instr.fieldAt, Instr.sureAddr, go_sem]

set_option maxHeartbeats 2000000 in
theorem nums_any (b : Nat) (acc : List UInt8) (v : Value) (A : Option Addr) (cap : Nat) (l : List Int) (w0 w : World) (F0 : List Nat) (L G : List Res)
    (hst : St w0 F0 w (cellsR b [v] 51 :: rowR v 5 1 acc.length (bvs acc) :: L) G) (hr : Rds L G (.slice A l.length cap) l.length (ivs l)) (hwf : ∀ x ∈ l, In64 x) (hsz : acc.length + 8 * l.length ≤ 1000000) :
    Calls Try.prog 24 #[.pointer (some ⟨b, 0, none⟩), .slice A l.length cap] w fun e w' => e = .returned (.tuple #[]) ∧ ∃ v', St w0 F0 w' (cellsR b [v'] 51 :: rowR v' 5 1 (acc ++ nums l).length (bvs (acc ++ nums l)) :: L) G := by
  refine W.func Try.func24 rfl Try.ntmps24 rfl ?_
  refine W.seq rfl ?_
  refine W.region rfl ?_
  refine Ops.y rfl rfl rfl hst.ctx (Y.moveS rfl) ?_
  refine Ops.y rfl rfl rfl hst.ctx (Y.lenS Try.underlying70 rfl) ?_
  refine Ops.y rfl rfl rfl hst.ctx (Y.moveI rfl) ?_
  refine Ops.done rfl ?_
  refine W.block rfl ?_
  refine W.loop (γ := Nat) [(0, .pointer _), (7, .slice _ _ _), (8, .int _ _)] (fun k => [(9, .int .i64 (k : Int))]) (fun k w => k ≤ l.length ∧ ∃ v, St w0 F0 w (cellsR b [v] 51 :: rowR v 5 1 (acc.length + 8 * k) (bvs (acc ++ nums (l.take k))) :: L) G) (fun k => l.length - k) (0) rfl ⟨rfl, rfl, rfl, trivial⟩ ?_ ?_ ?_
  · exact ⟨rfl, trivial⟩
  · exact ⟨by omega, v, by simpa [nums] using hst⟩
  · clear hst; rintro k j w1 ⟨hk, vk, hst⟩
    refine W.seq rfl ?_
    refine W.region rfl ?_
    refine Ops.yb rfl rfl rfl hst.ctx (Y.lss rfl rfl) (fun b10 hb10 => ?_)
    refine Ops.done rfl ?_
    refine W.seq rfl ?_
    cases b10
    · replace hb10 := of_decide_eq_false hb10.symm
      refine W.condF rfl rfl ?_
      refine W.exit rfl ?_
      refine ⟨_, Rslt.none Try.results24, ?_⟩
      refine ⟨rfl, vk, ?_⟩
      rw [show k = l.length by omega, List.take_length] at hst
      rw [List.length_append, nums_length]
      exact hst
    · replace hb10 := of_decide_eq_true hb10.symm
      refine W.condT rfl rfl ?_
      refine W.skip rfl ?_
      refine W.seq rfl ?_
      refine W.block rfl ?_
      refine W.seq rfl ?_
      refine W.region rfl ?_
      have hk1 : k < l.length := by omega
      have hmx := hwf _ (getD_mem hk1)
      unfold In64 at hmx
      refine Ops.y rfl rfl rfl hst.ctx (Y.indexAddr Try.underlying70 Try.sizeOf3 rfl rfl (((hr.cons _).cons _).sl hst |>.ne (by simp [ivs]; omega)) (by omega)) ?_
      first
      | refine Ops.y rfl rfl rfl hst.ctx (Y.load 0 Try.isAgg3 rfl rfl rfl) ?_
      | refine Ops.y rfl rfl rfl hst.ctx (Y.loadSl Try.isAgg3 rfl ((hr.cons _).cons _) (ivs_get hk1)) ?_
      refine Ops.y rfl rfl rfl hst.ctx (Y.assignI rfl) ?_
      refine Ops.done rfl ?_
      refine W.seq rfl ?_
      refine W.region rfl ?_
      refine Ops.y rfl rfl rfl hst.ctx (Y.assignI rfl) ?_
      refine Ops.done rfl ?_
      refine W.block rfl ?_
      refine W.loop (γ := Nat) [(0, .pointer _), (5, .int _ _), (7, .slice _ _ _), (8, .int _ _), (9, .int _ _)] (fun j => [(6, .int .i64 (7 - (j : Int)))]) (fun j w => j ≤ 8 ∧ ∃ v, St w0 F0 w (cellsR b [v] 51 :: rowR v 5 1 (acc.length + 8 * k + j) (bvs (acc ++ nums (l.take k) ++ (be8 (l.getD k 0)).take j)) :: L) G) (fun j => 8 - j) (0) rfl ⟨rfl, rfl, rfl, rfl, rfl, trivial⟩ ?_ ?_ ?_
      · exact ⟨rfl, trivial⟩
      · exact ⟨by omega, vk, by simpa using hst⟩
      · clear hst; rintro j i w3 ⟨hj8, vj, hst⟩
        obtain ⟨Av, cv, rfl, -⟩ := rowR_shape (hst.res _ (List.Mem.tail _ (List.Mem.head _)))
        refine W.seq rfl ?_
        refine W.seq rfl ?_
        refine W.region rfl ?_
        refine Ops.y rfl rfl rfl hst.ctx (Y.moveI rfl) ?_
        refine Ops.yb rfl rfl rfl hst.ctx (Y.geq rfl rfl) (fun b14 hb14 => ?_)
        refine Ops.done rfl ?_
        cases b14
        · replace hb14 := of_decide_eq_false hb14.symm
          refine W.condF rfl rfl ?_
          refine W.exit rfl ?_
          refine W.region rfl ?_
          refine Ops.y rfl rfl rfl hst.ctx (Y.addI rfl rfl (by omega)) ?_
          refine Ops.y rfl rfl rfl hst.ctx (Y.moveI rfl) ?_
          refine Ops.done rfl ?_
          have h8 : (be8 (l.getD k 0)).take j = be8 (l.getD k 0) := List.take_of_length_le (by rw [be8_length]; omega)
          rw [h8] at hst
          exact ⟨k + 1, ⟨rfl, trivial⟩, ⟨rfl, rfl, rfl, trivial⟩, ⟨by omega, _, by rw [nums_snoc hk1, ← List.append_assoc, show acc.length + 8 * (k + 1) = acc.length + 8 * k + j by omega]; exact hst⟩, by omega⟩
        · replace hb14 := of_decide_eq_true hb14.symm
          refine W.condT rfl rfl ?_
          refine W.skip rfl ?_
          refine W.seq rfl ?_
          refine W.block rfl ?_
          refine W.drawn rfl (by kernel_rfl) (Ctx _ _ (_) (_)) [12, 13, 14, 15] (.op 0 2 (.op 1 2 (.op 2 2 (.op 3 2 (.op 4 0 (.op 5 2 (.op 6 2 (.op 7 2 (.op 8 2 (.op 9 2 (.op 10 2 (.op 11 1 (.op 12 1 (.op 13 1 (.op 14 1 (.op 15 1 .nil)))))))))))))))) rfl (by kernel_rfl) hst.drew.ctx ?_
          replace hst := hst.drew
          generalize World.drew _ = wd at hst ⊢
          have hj1 : j < 8 := by omega
          refine Drw.ya rfl rfl rfl hst.ctx (Y.moveP rfl) ?_
          refine Drw.ya rfl rfl rfl hst.ctx (Y.moveP rfl) ?_
          refine Drw.ya rfl rfl rfl hst.ctx (Y.nilCheck rfl) ?_
          first
          | refine Drw.ya rfl rfl rfl hst.ctx (Y.fieldAddr fa51_0 rfl) ?_
          | refine Drw.ya rfl rfl rfl hst.ctx (Y.fieldAddrP fa51_0 rfl) ?_
          first
          | refine Drw.y rfl rfl rfl hst.ctx (Y.load 0 Try.isAgg41 rfl rfl rfl) ?_
          | refine Drw.y rfl rfl rfl hst.ctx (Y.loadSl Try.isAgg3 rfl ((hr.cons _).cons _) (ivs_get hk1)) ?_
          refine Drw.ya rfl rfl rfl hst.ctx (Y.moveI rfl) ?_
          refine Drw.ya rfl rfl rfl hst.ctx (Y.conv Try.underlying71 Try.underlying3 rfl) ?_
          refine Drw.ya rfl rfl rfl hst.ctx (Y.moveI rfl) ?_
          refine Drw.ya rfl rfl rfl hst.ctx (Y.mulI rfl rfl (by omega)) ?_
          refine Drw.ya rfl rfl rfl hst.ctx (Y.shr rfl rfl (by omega)) ?_
          refine Drw.ya rfl rfl rfl hst.ctx (Y.conv Try.underlying5 Try.underlying71 rfl) ?_
          refine Drw.x rfl rfl rfl (X.lits hst Try.underlying41 Try.sizeOf5 Try.zeroValue5 (by rfl) (by rfl) (by rfl) [.int _ _] (by rfl) (by rfl) ?_)
          clear hst; intro p28 w28 hst
          refine ⟨hst.ctx1, ?_⟩
          replace hst := hst
          rw [by8_val _ j hj1] at hst
          refine Drw.z rfl rfl rfl rfl (X.append hst 2 Try.underlying41 infoU8 rfl rfl rfl rfl rfl (Rds.ofCells 0 rfl 1 1) rfl (bvs_one [by8 (l.getD k 0) j]) (by unfold maxLen; omega) (by omega) ?_)
          clear hst; intro v29 w29 hst
          obtain ⟨A29, c29, rfl, -⟩ := rowR_shape (hst.res _ (List.Mem.tail _ (List.Mem.tail _ (List.Mem.head _))))
          refine Drw.zy rfl rfl rfl rfl hst.ctx (Y.nilCheck rfl) ?_
          first
          | refine Drw.zy rfl rfl rfl rfl hst.ctx (Y.fieldAddr fa51_0 rfl) ?_
          | refine Drw.zy rfl rfl rfl rfl hst.ctx (Y.fieldAddrP fa51_0 rfl) ?_
          first
          | refine Drw.z rfl rfl rfl rfl (X.storeV hst 0 (.slice _ _ _) Try.sizeOf41 rfl rfl rfl rfl (Nat.le_of_ble_eq_true rfl) rfl rfl ?_)
          | refine Drw.z rfl rfl rfl rfl (X.storeV hst 1 (.slice _ _ _) Try.sizeOf41 rfl rfl rfl rfl (Nat.le_of_ble_eq_true rfl) rfl rfl ?_)
          clear hst; intro w6_15 hst
          try simp only [List.set_cons_zero, List.set_cons_succ, Nat.zero_add, Nat.reduceAdd, splice, List.take, List.drop, List.append_eq, List.nil_append, List.cons_append, List.length_cons, List.length_nil] at hst
          refine Drw.done ?_
          refine W.region rfl ?_
          refine Ops.y rfl rfl rfl hst.ctx (Y.moveI rfl) ?_
          refine Ops.y rfl rfl rfl hst.ctx (Y.subI rfl rfl (by omega)) ?_
          refine Ops.y rfl rfl rfl hst.ctx (Y.assignI rfl) ?_
          refine Ops.done rfl ?_
          exact ⟨j + 1, ⟨congrArg (Value.int .i64) (by omega), trivial⟩, ⟨rfl, rfl, rfl, rfl, rfl, trivial⟩, ⟨by omega, _, by rw [be8_snoc _ j hj1, ← List.append_assoc, bvs_append]; exact hst.drop⟩, by omega⟩
end Go.Proofs.Ytkbkgpedpaodlaa.W
