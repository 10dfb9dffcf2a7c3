/- The walk of the reference's eight. -/
import Derived.Test.YtkbkgpedpaodlaaWE
set_option linter.unusedVariables false
set_option linter.unusedSimpArgs false
namespace Go.Proofs.Ytkbkgpedpaodlaa.W
open Go.RowKit Go.Proofs.Ytkbkgpedpaodlaa.K Go.Proofs.Ytkbkgpedpaodlaa.CM
def part (n : Int) (k : Nat) : List UInt8 := List.replicate (8 - k) 0 ++ (be8 n).drop (8 - k)
theorem part_set (n : Int) (k : Nat) (h : k < 8) : (bvs (part n k)).set (7 - k) (bv (by8 n (7 - k))) = bvs (part n (k + 1)) := by
  rcases (show k = 0 ∨ k = 1 ∨ k = 2 ∨ k = 3 ∨ k = 4 ∨ k = 5 ∨ k = 6 ∨ k = 7 by omega) with rfl | rfl | rfl | rfl | rfl | rfl | rfl | rfl <;> rfl
theorem part_length (n : Int) (k : Nat) (h : k ≤ 8) : (bvs (part n k)).length = 8 := by
  unfold part
  rw [bvs_length, List.length_append, List.length_replicate, List.length_drop, be8_length]
  omega
theorem sh_val (n : Int) (k : Nat) (h : k < 8) (hn : In64 n) : Value.int .u8 (IntKind.u8.wrap (n.fdiv (2 ^ (min ((IntKind.u64.wrap ((8 : Int) * (k : Int))).toNat) IntKind.i64.bits)))) = bv (by8 n (7 - k)) := by
  rw [wrap_u64, wrap_u8]
  unfold bv by8
  rw [UInt8.toNat_ofNat', show (2 : Nat) ^ 8 = 256 from rfl]
  unfold In64 at hn
  refine congrArg (Value.int .u8) ?_
  rcases (show k = 0 ∨ k = 1 ∨ k = 2 ∨ k = 3 ∨ k = 4 ∨ k = 5 ∨ k = 6 ∨ k = 7 by omega) with rfl | rfl | rfl | rfl | rfl | rfl | rfl | rfl
  · show n.fdiv 1 % 256 = (((n % 18446744073709551616).toNat / 1 % 256 : Nat) : Int)
    rw [Int.fdiv_eq_ediv_of_nonneg _ (by decide)]; omega
  · show n.fdiv 256 % 256 = (((n % 18446744073709551616).toNat / 256 % 256 : Nat) : Int)
    rw [Int.fdiv_eq_ediv_of_nonneg _ (by decide)]; omega
  · show n.fdiv 65536 % 256 = (((n % 18446744073709551616).toNat / 65536 % 256 : Nat) : Int)
    rw [Int.fdiv_eq_ediv_of_nonneg _ (by decide)]; omega
  · show n.fdiv 16777216 % 256 = (((n % 18446744073709551616).toNat / 16777216 % 256 : Nat) : Int)
    rw [Int.fdiv_eq_ediv_of_nonneg _ (by decide)]; omega
  · show n.fdiv 4294967296 % 256 = (((n % 18446744073709551616).toNat / 4294967296 % 256 : Nat) : Int)
    rw [Int.fdiv_eq_ediv_of_nonneg _ (by decide)]; omega
  · show n.fdiv 1099511627776 % 256 = (((n % 18446744073709551616).toNat / 1099511627776 % 256 : Nat) : Int)
    rw [Int.fdiv_eq_ediv_of_nonneg _ (by decide)]; omega
  · show n.fdiv 281474976710656 % 256 = (((n % 18446744073709551616).toNat / 281474976710656 % 256 : Nat) : Int)
    rw [Int.fdiv_eq_ediv_of_nonneg _ (by decide)]; omega
  · show n.fdiv 72057594037927936 % 256 = (((n % 18446744073709551616).toNat / 72057594037927936 % 256 : Nat) : Int)
    rw [Int.fdiv_eq_ediv_of_nonneg _ (by decide)]; omega


set_option maxHeartbeats 2000000 in
theorem eight_any (n : Int) (hn : In64 n) (w0 w : World) (F0 : List Nat) (L G : List Res) (hst : St w0 F0 w L G) :
    Calls Try.prog 26 #[.int .i64 n] w fun e w' => e = .returned (.string (str (be8 n))) ∧ St w0 F0 w' L G := by
  have hn2 := hn
  unfold In64 at hn2
  refine W.func Try.func26 rfl Try.ntmps26 rfl ?_
  refine W.seq rfl ?_
  refine W.region rfl ?_
  refine Ops.y rfl rfl rfl hst.ctx (Y.assignT rfl) ?_
  refine Ops.done rfl ?_
  refine W.seq rfl ?_
  refine W.region rfl ?_
  refine Ops.x rfl rfl rfl (X.allocA hst Try.zeroValue73 ?_)
  clear hst; intro p3 w3 hst
  refine Ops.done rfl ?_
  refine W.seq rfl ?_
  refine W.seq rfl ?_
  refine W.region rfl ?_
  refine Ops.y rfl rfl rfl hst.ctx (Y.assignI rfl) ?_
  refine Ops.done rfl ?_
  refine W.block rfl ?_
  refine W.loop (γ := Nat) [(0, .int _ _), (3, .pointer _)] (fun k => [(4, .int .i64 (k : Int))]) (fun k w => k ≤ 8 ∧ St w0 F0 w (cellsR p3 (bvs (part n k)) 73 :: L) G) (fun k => 8 - k) (0) rfl ⟨rfl, rfl, trivial⟩ ?_ ?_ ?_
  · exact ⟨rfl, trivial⟩
  · exact ⟨by omega, hst⟩
  · clear hst; rintro k j w3 ⟨hk, hst⟩
    refine W.seq rfl ?_
    refine W.seq rfl ?_
    refine W.region rfl ?_
    refine Ops.y rfl rfl rfl hst.ctx (Y.moveI rfl) ?_
    refine Ops.yb rfl rfl rfl hst.ctx (Y.lss rfl rfl) (fun b6 hb6 => ?_)
    refine Ops.done rfl ?_
    cases b6
    · replace hb6 := of_decide_eq_false hb6.symm
      refine W.condF rfl rfl ?_
      refine W.exit rfl ?_
      refine W.seq rfl ?_
      have hk8 : k = 8 := by omega
      subst hk8
      replace hst : St w0 F0 _ (cellsR p3 (bvs (be8 n)) 73 :: L) G := hst
      refine W.region rfl ?_
      refine Ops.y rfl rfl rfl hst.ctx (Y.sliceArr Try.underlying73 Try.sizeOf5 rfl) ?_
      refine Ops.y rfl rfl rfl hst.ctx (Y.str Try.underlying41 Try.underlying5 Try.underlying9 rfl (l := be8 n) (Rds.ofCells 0 rfl 8 8) rfl) ?_
      refine Ops.y rfl rfl rfl hst.ctx (Y.assignT rfl) ?_
      refine Ops.done rfl ?_
      refine W.ret rfl ?_
      refine ⟨_, Rslt.one Try.results26 rfl, ?_⟩
      exact ⟨rfl, hst.drop⟩
    · replace hb6 := of_decide_eq_true hb6.symm
      refine W.condT rfl rfl ?_
      refine W.skip rfl ?_
      refine W.seq rfl ?_
      refine W.block rfl ?_
      have hk1 : k < 8 := by omega
      refine W.region rfl ?_
      refine Ops.y rfl rfl rfl hst.ctx (Y.moveI rfl) ?_
      refine Ops.y rfl rfl rfl hst.ctx (Y.subI rfl rfl (by omega)) ?_
      refine Ops.y rfl rfl rfl hst.ctx (Y.moveI rfl) ?_
      refine Ops.y rfl rfl rfl hst.ctx (Y.moveI rfl) ?_
      refine Ops.y rfl rfl rfl hst.ctx (Y.mulI rfl rfl (by omega)) ?_
      refine Ops.y rfl rfl rfl hst.ctx (Y.conv Try.underlying42 Try.underlying3 rfl) ?_
      refine Ops.y rfl rfl rfl hst.ctx (Y.shr rfl rfl (by rw [wrap_u64]; omega)) ?_
      refine Ops.y rfl rfl rfl hst.ctx (Y.conv Try.underlying5 Try.underlying3 rfl) ?_
      refine Ops.y rfl rfl rfl hst.ctx (Y.indexAddrA Try.underlying73 Try.sizeOf5 rfl rfl (by omega)) ?_
      refine Ops.x rfl rfl rfl (X.store hst 0 Try.sizeOf5 rfl rfl (v := bv (by8 n (7 - k))) (by exact sh_val n k hk1 hn) rfl (by rw [part_length _ _ (by omega)]; omega) (cs' := bvs (part n (k + 1))) (by rw [show 0 + (7 - (k : Int)).toNat * 1 = 7 - k by omega]; exact part_set n k hk1) rfl ?_)
      clear hst; intro w59 hst
      refine Ops.done rfl ?_
      refine W.region rfl ?_
      refine Ops.y rfl rfl rfl hst.ctx (Y.moveI rfl) ?_
      refine Ops.y rfl rfl rfl hst.ctx (Y.addI rfl rfl (by omega)) ?_
      refine Ops.y rfl rfl rfl hst.ctx (Y.assignI rfl) ?_
      refine Ops.done rfl ?_
      exact ⟨k + 1, ⟨rfl, trivial⟩, ⟨rfl, rfl, trivial⟩, ⟨by omega, hst⟩, by omega⟩
end Go.Proofs.Ytkbkgpedpaodlaa.W
