/- The walk of the reference's Encode. -/
import Derived.Test.YtkbkgpedpaodlaaWR
import Derived.Test.YtkbkgpedpaodlaaCX5
set_option linter.unusedVariables false
set_option linter.unusedSimpArgs false
namespace Go.Proofs.Ytkbkgpedpaodlaa.W
open Go.RowKit Go.Proofs.Ytkbkgpedpaodlaa.K Go.Proofs.Ytkbkgpedpaodlaa.CM
theorem str_size (l : List UInt8) : (str l).size = l.length := by
  simp [str, ByteArray.size]
theorem Y.addL {P : Program} {ρ : Env} {S : World → Prop} {ty t t' : TypeId} {x y : Operand} {l m : List UInt8} (hx : ev ρ x = .string (str l)) (hy : ev ρ y = .string (str m)) (h : l.length + m.length ≤ 9223372036854775807) : Y P S ρ (.binOp .add t x y t') ty (.string (str (l ++ m))) := by
  rw [← CW.add_size]
  exact Y.addT hx hy (by rw [str_size, str_size]; exact h)
theorem fl_val (good ref : Bool) : Value.int .u8 (fl good ref) = bv (ub (fl good ref)) := by cases good <;> cases ref <;> rfl
theorem nums9 (h : List UInt8) (a b c d e f g i j : Int) : h ++ be8 a ++ be8 b ++ be8 c ++ be8 d ++ be8 e ++ be8 f ++ be8 g ++ be8 i ++ be8 j = h ++ nums [a, b, c, d, e, f, g, i, j] := by
  simp [nums, List.append_assoc]
theorem nums2 (h : List UInt8) (a b : Int) : h ++ be8 a ++ be8 b = h ++ nums [a, b] := by
  simp [nums, List.append_assoc]
theorem cf26 : ∀ args w, (callFunc 26 args).run Try.prog w = .ok (.enter 26 args) w := fun _ _ => by simp [go_sem]
theorem cf27 : ∀ args w, (callFunc 27 args).run Try.prog w = .ok (.enter 27 args) w := fun _ _ => by simp [go_sem]

set_option maxHeartbeats 4000000 in
theorem rEncode_any (kind from_ slo shi held hops : Int) (good ref : Bool) (elo ehi pulse time num : Int) (tab : List (Int × Int)) (A : Option Addr) (cap : Nat) (w0 w : World) (F0 : List Nat) (L G : List Res) (hst : St w0 F0 w L G)
    (hr : Rds L G (.slice A tab.length cap) tab.length (lcs tab)) (hin : MsgIn kind from_ slo shi held hops elo ehi pulse time num tab) :
    Calls Try.prog 17 #[.agg #[.int .i64 kind, .int .i64 from_, .int .i64 slo, .int .i64 shi, .int .i64 held, .int .i64 hops, .bool good, .bool ref, .int .i64 elo, .int .i64 ehi, .int .i64 pulse, .int .i64 time, .int .i64 num, .slice A tab.length cap]] w fun e w' => e = .returned (.tuple #[.string (encV kind from_ slo shi held hops good ref elo ehi pulse time num tab).1, .int .i64 (encV kind from_ slo shi held hops good ref elo ehi pulse time num tab).2]) ∧ St w0 F0 w' L G := by
  obtain ⟨hlen, hwf, hx64⟩ := hin
  refine W.func Try.func17 rfl Try.ntmps17 rfl ?_
  refine W.seq rfl ?_
  refine W.region rfl ?_
  refine Ops.x rfl rfl rfl (X.boxA hst rfl ?_)
  clear hst; intro p1 w1 hst
  refine Ops.y rfl rfl rfl hst.ctx (Y.assignT rfl) ?_
  refine Ops.y rfl rfl rfl hst.ctx (Y.assignI rfl) ?_
  refine Ops.done rfl ?_
  refine W.seq rfl ?_
  refine W.seq rfl ?_
  refine W.region rfl ?_
  first
  | refine Ops.y rfl rfl rfl hst.ctx (Y.loadA 0 Try.isAgg28 Try.sizeOf28 rfl rfl rfl rfl) ?_
  | refine Ops.y rfl rfl rfl hst.ctx (Y.loadA 1 Try.isAgg28 Try.sizeOf28 rfl rfl rfl rfl) ?_
  | refine Ops.y rfl rfl rfl hst.ctx (Y.loadA 2 Try.isAgg28 Try.sizeOf28 rfl rfl rfl rfl) ?_
  refine Ops.x rfl rfl rfl (X.call cf12 rfl ?_)
  refine use_call (rgood_any _ _ _ _ _ _ _ _ _ _ _ _ _ tab _ _ _ _ _ _ _ hst (hr.cons _) hlen hwf) rfl ?_; clear hst; rintro e w1 ⟨b9, rfl, hb9, hst⟩; refine ⟨_, rfl, ?_⟩
  cases b9
  · replace hb9 := of_decide_eq_false hb9.symm
    refine Ops.y rfl rfl rfl hst.ctx (Y.not rfl) ?_
    refine Ops.done rfl ?_
    refine W.condT rfl rfl ?_
    refine W.seq rfl ?_
    refine W.region rfl ?_
    refine Ops.y rfl rfl rfl hst.ctx (Y.assignT rfl) ?_
    refine Ops.y rfl rfl rfl hst.ctx (Y.assignI rfl) ?_
    refine Ops.done rfl ?_
    refine W.ret rfl ?_
    refine ⟨_, Rslt.two Try.results17 rfl rfl, ?_⟩
    exact ⟨ret2 (by unfold encV; exact if_neg hb9), hst.drop⟩
  · replace hb9 := of_decide_eq_true hb9.symm
    refine Ops.y rfl rfl rfl hst.ctx (Y.not rfl) ?_
    refine Ops.done rfl ?_
    refine W.condF rfl rfl ?_
    refine W.skip rfl ?_
    refine W.seq rfl ?_
    refine W.region rfl ?_
    refine Ops.y rfl rfl rfl hst.ctx (Y.assignI rfl) ?_
    refine Ops.done rfl ?_
    refine W.seq rfl ?_
    refine W.seq rfl ?_
    refine W.region rfl ?_
    first
    | refine Ops.y rfl rfl rfl hst.ctx (Y.fieldAddr fa28_5 rfl) ?_
    | refine Ops.y rfl rfl rfl hst.ctx (Y.fieldAddrP fa28_5 rfl) ?_
    first
    | refine Ops.y rfl rfl rfl hst.ctx (Y.load 0 Try.isAgg4 rfl rfl rfl) ?_
    | refine Ops.y rfl rfl rfl hst.ctx (Y.load 1 Try.isAgg4 rfl rfl rfl) ?_
    | refine Ops.y rfl rfl rfl hst.ctx (Y.load 2 Try.isAgg4 rfl rfl rfl) ?_
    refine Ops.done rfl ?_
    refine W.cut [(1, .pointer _)] (fun _ : Unit => [(4, .int .u8 (fl1 good))]) (fun _ w => St w0 F0 w (cellsR p1 [.int .i64 kind, .int .i64 from_, .int .i64 slo, .int .i64 shi, .int .i64 held, .int .i64 hops, .bool good, .bool ref, .int .i64 elo, .int .i64 ehi, .int .i64 pulse, .int .i64 time, .int .i64 num, .slice A tab.length cap] 28 :: L) G) ⟨rfl, trivial⟩ ?_ ?_
    rotate_left
    · clear hst; rintro _ j w2 hst
      refine W.seq rfl ?_
      refine W.seq rfl ?_
      refine W.region rfl ?_
      first
      | refine Ops.y rfl rfl rfl hst.ctx (Y.fieldAddr fa28_6 rfl) ?_
      | refine Ops.y rfl rfl rfl hst.ctx (Y.fieldAddrP fa28_6 rfl) ?_
      first
      | refine Ops.y rfl rfl rfl hst.ctx (Y.load 0 Try.isAgg4 rfl rfl rfl) ?_
      | refine Ops.y rfl rfl rfl hst.ctx (Y.load 1 Try.isAgg4 rfl rfl rfl) ?_
      | refine Ops.y rfl rfl rfl hst.ctx (Y.load 2 Try.isAgg4 rfl rfl rfl) ?_
      refine Ops.done rfl ?_
      refine W.cut [(1, .pointer _)] (fun _ : Unit => [(4, .int .u8 (fl good ref))]) (fun _ w => St w0 F0 w (cellsR p1 [.int .i64 kind, .int .i64 from_, .int .i64 slo, .int .i64 shi, .int .i64 held, .int .i64 hops, .bool good, .bool ref, .int .i64 elo, .int .i64 ehi, .int .i64 pulse, .int .i64 time, .int .i64 num, .slice A tab.length cap] 28 :: L) G) ⟨rfl, trivial⟩ ?_ ?_
      rotate_left
      · clear hst; rintro _ j w2 hst
        refine W.seq rfl ?_
        have htl := hb9.2.1
        have hok : Okm kind from_ slo shi held hops elo ehi pulse time num tab := hb9
        refine W.region rfl ?_
        first
        | refine Ops.y rfl rfl rfl hst.ctx (Y.fieldAddr fa28_0 rfl) ?_
        | refine Ops.y rfl rfl rfl hst.ctx (Y.fieldAddrP fa28_0 rfl) ?_
        first
        | refine Ops.y rfl rfl rfl hst.ctx (Y.load 0 Try.isAgg3 rfl rfl rfl) ?_
        | refine Ops.y rfl rfl rfl hst.ctx (Y.load 1 Try.isAgg3 rfl rfl rfl) ?_
        | refine Ops.y rfl rfl rfl hst.ctx (Y.load 2 Try.isAgg3 rfl rfl rfl) ?_
        refine Ops.y rfl rfl rfl hst.ctx (Y.conv Try.underlying5 Try.underlying3 rfl) ?_
        first
        | refine Ops.y rfl rfl rfl hst.ctx (Y.fieldAddr fa28_1 rfl) ?_
        | refine Ops.y rfl rfl rfl hst.ctx (Y.fieldAddrP fa28_1 rfl) ?_
        first
        | refine Ops.y rfl rfl rfl hst.ctx (Y.load 0 Try.isAgg3 rfl rfl rfl) ?_
        | refine Ops.y rfl rfl rfl hst.ctx (Y.load 1 Try.isAgg3 rfl rfl rfl) ?_
        | refine Ops.y rfl rfl rfl hst.ctx (Y.load 2 Try.isAgg3 rfl rfl rfl) ?_
        refine Ops.y rfl rfl rfl hst.ctx (Y.conv Try.underlying5 Try.underlying3 rfl) ?_
        refine Ops.y rfl rfl rfl hst.ctx (Y.moveI rfl) ?_
        first
        | refine Ops.y rfl rfl rfl hst.ctx (Y.fieldAddr fa28_10 rfl) ?_
        | refine Ops.y rfl rfl rfl hst.ctx (Y.fieldAddrP fa28_10 rfl) ?_
        first
        | refine Ops.y rfl rfl rfl hst.ctx (Y.load 0 Try.isAgg26 rfl rfl rfl) ?_
        | refine Ops.y rfl rfl rfl hst.ctx (Y.load 1 Try.isAgg26 rfl rfl rfl) ?_
        | refine Ops.y rfl rfl rfl hst.ctx (Y.load 2 Try.isAgg26 rfl rfl rfl) ?_
        refine Ops.y rfl rfl rfl hst.ctx (Y.lenS Try.underlying26 rfl) ?_
        refine Ops.y rfl rfl rfl hst.ctx (Y.conv Try.underlying5 Try.underlying3 rfl) ?_
        refine Ops.x rfl rfl rfl (X.lits hst Try.underlying41 Try.sizeOf5 Try.zeroValue5 (by rfl) (by rfl) (by rfl) [.int _ _, .int _ _, .int _ _, .int _ _] (by rfl) (by rfl) ?_)
        clear hst; intro p30 w30 hst
        simp only [ub_val, fl_val] at hst
        replace hst : St w0 F0 _ (cellsR p30 (bvs (hd4 kind from_ good ref tab.length)) 5 :: cellsR p1 [.int .i64 kind, .int .i64 from_, .int .i64 slo, .int .i64 shi, .int .i64 held, .int .i64 hops, .bool good, .bool ref, .int .i64 elo, .int .i64 ehi, .int .i64 pulse, .int .i64 time, .int .i64 num, .slice A tab.length cap] 28 :: L) G := hst
        refine Ops.y rfl rfl rfl hst.ctx (Y.str Try.underlying41 Try.underlying5 Try.underlying9 rfl (l := hd4 kind from_ good ref tab.length) (Rds.ofCells 0 rfl 4 4) rfl) ?_
        refine Ops.y rfl rfl rfl hst.ctx (Y.assignT rfl) ?_
        refine Ops.done rfl ?_
        refine W.seq rfl ?_
        refine W.drawn rfl (by kernel_rfl) (Ctx _ _ (_) (_)) [] (.op 0 0 (.op 1 0 (.op 2 0 (.op 3 0 (.op 6 0 (.op 7 0 (.op 8 0 (.op 11 0 (.op 12 0 (.op 15 0 (.op 16 0 (.op 19 0 (.op 20 0 (.op 21 0 (.op 24 0 (.op 25 0 (.op 26 0 (.op 29 0 (.op 30 0 (.op 33 0 (.op 34 0 (.op 35 0 (.op 38 0 (.op 39 0 (.op 40 0 (.op 4 1 (.op 5 0 (.op 9 1 (.op 10 0 (.op 13 1 (.op 14 0 (.op 17 1 (.op 18 0 (.op 22 1 (.op 23 0 (.op 27 1 (.op 28 0 (.op 31 1 (.op 32 0 (.op 36 1 (.op 37 0 (.op 41 1 (.op 42 0 (.op 43 0 .nil)))))))))))))))))))))))))))))))))))))))))))) rfl (by kernel_rfl) hst.drew.ctx ?_
        replace hst := hst.drew
        generalize World.drew _ = wd at hst ⊢
        refine Drw.y rfl rfl rfl hst.ctx (Y.moveT rfl) ?_
        first
        | refine Drw.y rfl rfl rfl hst.ctx (Y.fieldAddr fa28_2 rfl) ?_
        | refine Drw.y rfl rfl rfl hst.ctx (Y.fieldAddrP fa28_2 rfl) ?_
        first
        | refine Drw.y rfl rfl rfl hst.ctx (Y.fieldAddr fa23_0 rfl) ?_
        | refine Drw.y rfl rfl rfl hst.ctx (Y.fieldAddrP fa23_0 rfl) ?_
        first
        | refine Drw.y rfl rfl rfl hst.ctx (Y.load 0 Try.isAgg3 rfl rfl rfl) ?_
        | refine Drw.y rfl rfl rfl hst.ctx (Y.load 1 Try.isAgg3 rfl rfl rfl) ?_
        | refine Drw.y rfl rfl rfl hst.ctx (Y.load 2 Try.isAgg3 rfl rfl rfl) ?_
        first
        | refine Drw.y rfl rfl rfl hst.ctx (Y.fieldAddr fa28_2 rfl) ?_
        | refine Drw.y rfl rfl rfl hst.ctx (Y.fieldAddrP fa28_2 rfl) ?_
        first
        | refine Drw.y rfl rfl rfl hst.ctx (Y.fieldAddr fa23_1 rfl) ?_
        | refine Drw.y rfl rfl rfl hst.ctx (Y.fieldAddrP fa23_1 rfl) ?_
        first
        | refine Drw.y rfl rfl rfl hst.ctx (Y.load 0 Try.isAgg3 rfl rfl rfl) ?_
        | refine Drw.y rfl rfl rfl hst.ctx (Y.load 1 Try.isAgg3 rfl rfl rfl) ?_
        | refine Drw.y rfl rfl rfl hst.ctx (Y.load 2 Try.isAgg3 rfl rfl rfl) ?_
        first
        | refine Drw.y rfl rfl rfl hst.ctx (Y.fieldAddr fa28_3 rfl) ?_
        | refine Drw.y rfl rfl rfl hst.ctx (Y.fieldAddrP fa28_3 rfl) ?_
        first
        | refine Drw.y rfl rfl rfl hst.ctx (Y.load 0 Try.isAgg3 rfl rfl rfl) ?_
        | refine Drw.y rfl rfl rfl hst.ctx (Y.load 1 Try.isAgg3 rfl rfl rfl) ?_
        | refine Drw.y rfl rfl rfl hst.ctx (Y.load 2 Try.isAgg3 rfl rfl rfl) ?_
        first
        | refine Drw.y rfl rfl rfl hst.ctx (Y.fieldAddr fa28_4 rfl) ?_
        | refine Drw.y rfl rfl rfl hst.ctx (Y.fieldAddrP fa28_4 rfl) ?_
        first
        | refine Drw.y rfl rfl rfl hst.ctx (Y.load 0 Try.isAgg3 rfl rfl rfl) ?_
        | refine Drw.y rfl rfl rfl hst.ctx (Y.load 1 Try.isAgg3 rfl rfl rfl) ?_
        | refine Drw.y rfl rfl rfl hst.ctx (Y.load 2 Try.isAgg3 rfl rfl rfl) ?_
        first
        | refine Drw.y rfl rfl rfl hst.ctx (Y.fieldAddr fa28_7 rfl) ?_
        | refine Drw.y rfl rfl rfl hst.ctx (Y.fieldAddrP fa28_7 rfl) ?_
        first
        | refine Drw.y rfl rfl rfl hst.ctx (Y.fieldAddr fa23_0 rfl) ?_
        | refine Drw.y rfl rfl rfl hst.ctx (Y.fieldAddrP fa23_0 rfl) ?_
        first
        | refine Drw.y rfl rfl rfl hst.ctx (Y.load 0 Try.isAgg3 rfl rfl rfl) ?_
        | refine Drw.y rfl rfl rfl hst.ctx (Y.load 1 Try.isAgg3 rfl rfl rfl) ?_
        | refine Drw.y rfl rfl rfl hst.ctx (Y.load 2 Try.isAgg3 rfl rfl rfl) ?_
        first
        | refine Drw.y rfl rfl rfl hst.ctx (Y.fieldAddr fa28_7 rfl) ?_
        | refine Drw.y rfl rfl rfl hst.ctx (Y.fieldAddrP fa28_7 rfl) ?_
        first
        | refine Drw.y rfl rfl rfl hst.ctx (Y.fieldAddr fa23_1 rfl) ?_
        | refine Drw.y rfl rfl rfl hst.ctx (Y.fieldAddrP fa23_1 rfl) ?_
        first
        | refine Drw.y rfl rfl rfl hst.ctx (Y.load 0 Try.isAgg3 rfl rfl rfl) ?_
        | refine Drw.y rfl rfl rfl hst.ctx (Y.load 1 Try.isAgg3 rfl rfl rfl) ?_
        | refine Drw.y rfl rfl rfl hst.ctx (Y.load 2 Try.isAgg3 rfl rfl rfl) ?_
        first
        | refine Drw.y rfl rfl rfl hst.ctx (Y.fieldAddr fa28_8 rfl) ?_
        | refine Drw.y rfl rfl rfl hst.ctx (Y.fieldAddrP fa28_8 rfl) ?_
        first
        | refine Drw.y rfl rfl rfl hst.ctx (Y.load 0 Try.isAgg3 rfl rfl rfl) ?_
        | refine Drw.y rfl rfl rfl hst.ctx (Y.load 1 Try.isAgg3 rfl rfl rfl) ?_
        | refine Drw.y rfl rfl rfl hst.ctx (Y.load 2 Try.isAgg3 rfl rfl rfl) ?_
        first
        | refine Drw.y rfl rfl rfl hst.ctx (Y.fieldAddr fa28_9 rfl) ?_
        | refine Drw.y rfl rfl rfl hst.ctx (Y.fieldAddrP fa28_9 rfl) ?_
        first
        | refine Drw.y rfl rfl rfl hst.ctx (Y.fieldAddr fa25_0 rfl) ?_
        | refine Drw.y rfl rfl rfl hst.ctx (Y.fieldAddrP fa25_0 rfl) ?_
        first
        | refine Drw.y rfl rfl rfl hst.ctx (Y.load 0 Try.isAgg3 rfl rfl rfl) ?_
        | refine Drw.y rfl rfl rfl hst.ctx (Y.load 1 Try.isAgg3 rfl rfl rfl) ?_
        | refine Drw.y rfl rfl rfl hst.ctx (Y.load 2 Try.isAgg3 rfl rfl rfl) ?_
        first
        | refine Drw.y rfl rfl rfl hst.ctx (Y.fieldAddr fa28_9 rfl) ?_
        | refine Drw.y rfl rfl rfl hst.ctx (Y.fieldAddrP fa28_9 rfl) ?_
        first
        | refine Drw.y rfl rfl rfl hst.ctx (Y.fieldAddr fa25_1 rfl) ?_
        | refine Drw.y rfl rfl rfl hst.ctx (Y.fieldAddrP fa25_1 rfl) ?_
        first
        | refine Drw.y rfl rfl rfl hst.ctx (Y.load 0 Try.isAgg3 rfl rfl rfl) ?_
        | refine Drw.y rfl rfl rfl hst.ctx (Y.load 1 Try.isAgg3 rfl rfl rfl) ?_
        | refine Drw.y rfl rfl rfl hst.ctx (Y.load 2 Try.isAgg3 rfl rfl rfl) ?_
        refine Drw.x rfl rfl rfl (X.call cf26 rfl ?_)
        refine use_call (eight_any _ (by first | exact hlp.1 | exact hlp.2 | (refine hx64 _ ?_; simp)) _ _ _ _ _ hst) rfl ?_; clear hst; rintro e w36 ⟨rfl, hst⟩; refine ⟨_, rfl, ⟨hst.ctx, ?_⟩⟩
        refine Drw.y rfl rfl rfl hst.ctx (Y.addL rfl rfl (by simp [hd4]; try omega)) ?_
        refine Drw.x rfl rfl rfl (X.call cf26 rfl ?_)
        refine use_call (eight_any _ (by first | exact hlp.1 | exact hlp.2 | (refine hx64 _ ?_; simp)) _ _ _ _ _ hst) rfl ?_; clear hst; rintro e w41 ⟨rfl, hst⟩; refine ⟨_, rfl, ⟨hst.ctx, ?_⟩⟩
        refine Drw.y rfl rfl rfl hst.ctx (Y.addL rfl rfl (by simp [hd4]; try omega)) ?_
        refine Drw.x rfl rfl rfl (X.call cf26 rfl ?_)
        refine use_call (eight_any _ (by first | exact hlp.1 | exact hlp.2 | (refine hx64 _ ?_; simp)) _ _ _ _ _ hst) rfl ?_; clear hst; rintro e w45 ⟨rfl, hst⟩; refine ⟨_, rfl, ⟨hst.ctx, ?_⟩⟩
        refine Drw.y rfl rfl rfl hst.ctx (Y.addL rfl rfl (by simp [hd4]; try omega)) ?_
        refine Drw.x rfl rfl rfl (X.call cf26 rfl ?_)
        refine use_call (eight_any _ (by first | exact hlp.1 | exact hlp.2 | (refine hx64 _ ?_; simp)) _ _ _ _ _ hst) rfl ?_; clear hst; rintro e w49 ⟨rfl, hst⟩; refine ⟨_, rfl, ⟨hst.ctx, ?_⟩⟩
        refine Drw.y rfl rfl rfl hst.ctx (Y.addL rfl rfl (by simp [hd4]; try omega)) ?_
        refine Drw.x rfl rfl rfl (X.call cf26 rfl ?_)
        refine use_call (eight_any _ (by first | exact hlp.1 | exact hlp.2 | (refine hx64 _ ?_; simp)) _ _ _ _ _ hst) rfl ?_; clear hst; rintro e w54 ⟨rfl, hst⟩; refine ⟨_, rfl, ⟨hst.ctx, ?_⟩⟩
        refine Drw.y rfl rfl rfl hst.ctx (Y.addL rfl rfl (by simp [hd4]; try omega)) ?_
        refine Drw.x rfl rfl rfl (X.call cf26 rfl ?_)
        refine use_call (eight_any _ (by first | exact hlp.1 | exact hlp.2 | (refine hx64 _ ?_; simp)) _ _ _ _ _ hst) rfl ?_; clear hst; rintro e w59 ⟨rfl, hst⟩; refine ⟨_, rfl, ⟨hst.ctx, ?_⟩⟩
        refine Drw.y rfl rfl rfl hst.ctx (Y.addL rfl rfl (by simp [hd4]; try omega)) ?_
        refine Drw.x rfl rfl rfl (X.call cf26 rfl ?_)
        refine use_call (eight_any _ (by first | exact hlp.1 | exact hlp.2 | (refine hx64 _ ?_; simp)) _ _ _ _ _ hst) rfl ?_; clear hst; rintro e w63 ⟨rfl, hst⟩; refine ⟨_, rfl, ⟨hst.ctx, ?_⟩⟩
        refine Drw.y rfl rfl rfl hst.ctx (Y.addL rfl rfl (by simp [hd4]; try omega)) ?_
        refine Drw.x rfl rfl rfl (X.call cf26 rfl ?_)
        refine use_call (eight_any _ (by first | exact hlp.1 | exact hlp.2 | (refine hx64 _ ?_; simp)) _ _ _ _ _ hst) rfl ?_; clear hst; rintro e w68 ⟨rfl, hst⟩; refine ⟨_, rfl, ⟨hst.ctx, ?_⟩⟩
        refine Drw.y rfl rfl rfl hst.ctx (Y.addL rfl rfl (by simp [hd4]; try omega)) ?_
        refine Drw.x rfl rfl rfl (X.call cf26 rfl ?_)
        refine use_call (eight_any _ (by first | exact hlp.1 | exact hlp.2 | (refine hx64 _ ?_; simp)) _ _ _ _ _ hst) rfl ?_; clear hst; rintro e w73 ⟨rfl, hst⟩; refine ⟨_, rfl, ⟨hst.ctx, ?_⟩⟩
        refine Drw.y rfl rfl rfl hst.ctx (Y.addL rfl rfl (by simp [hd4]; try omega)) ?_
        refine Drw.y rfl rfl rfl hst.ctx (Y.assignT rfl) ?_
        refine Drw.done ?_
        refine W.seq rfl ?_
        refine W.seq rfl ?_
        replace hst := hst.drop
        refine W.region rfl ?_
        first
        | refine Ops.y rfl rfl rfl hst.ctx (Y.fieldAddr fa28_10 rfl) ?_
        | refine Ops.y rfl rfl rfl hst.ctx (Y.fieldAddrP fa28_10 rfl) ?_
        first
        | refine Ops.y rfl rfl rfl hst.ctx (Y.load 0 Try.isAgg26 rfl rfl rfl) ?_
        | refine Ops.y rfl rfl rfl hst.ctx (Y.load 1 Try.isAgg26 rfl rfl rfl) ?_
        | refine Ops.y rfl rfl rfl hst.ctx (Y.load 2 Try.isAgg26 rfl rfl rfl) ?_
        refine Ops.y rfl rfl rfl hst.ctx (Y.lenS Try.underlying26 rfl) ?_
        refine Ops.y rfl rfl rfl hst.ctx (Y.moveI rfl) ?_
        refine Ops.done rfl ?_
        refine W.block rfl ?_
        refine W.loop (γ := Nat) [(76, .slice _ _ _), (77, .int _ _)] (fun k => [(5, .string (str (hd4 kind from_ good ref tab.length ++ nums [slo, shi, held, hops, elo, ehi, pulse, time, num] ++ nums (tin (tab.take k))))), (78, .int .i64 (k : Int))]) (fun k w => k ≤ tab.length ∧ St w0 F0 w (cellsR p1 [.int .i64 kind, .int .i64 from_, .int .i64 slo, .int .i64 shi, .int .i64 held, .int .i64 hops, .bool good, .bool ref, .int .i64 elo, .int .i64 ehi, .int .i64 pulse, .int .i64 time, .int .i64 num, .slice A tab.length cap] 28 :: L) G) (fun k => tab.length - k) (0) rfl ⟨rfl, rfl, trivial⟩ ?_ ?_ ?_
        · exact ⟨congrArg (fun l => Value.string (str l)) ((nums9 _ _ _ _ _ _ _ _ _ _).trans (by simp [tin, nums])), rfl, trivial⟩
        · exact ⟨by omega, hst⟩
        · clear hst; rintro k j w3 ⟨hk, hst⟩
          have hacc : (hd4 kind from_ good ref tab.length ++ nums [slo, shi, held, hops, elo, ehi, pulse, time, num] ++ nums (tin (tab.take k))).length = 76 + 16 * k := by
            rw [List.length_append, List.length_append, nums_length, nums_length, tin_length, List.length_take]; simp [hd4]; omega
          refine W.seq rfl ?_
          refine W.region rfl ?_
          refine Ops.yb rfl rfl rfl hst.ctx (Y.lss rfl rfl) (fun b79 hb79 => ?_)
          refine Ops.done rfl ?_
          refine W.seq rfl ?_
          cases b79
          · replace hb79 := of_decide_eq_false hb79.symm
            refine W.condF rfl rfl ?_
            refine W.exit rfl ?_
            refine W.seq rfl ?_
            have hkk : k = tab.length := by omega
            subst hkk
            refine W.region rfl ?_
            refine Ops.y rfl rfl rfl hst.ctx (Y.moveT rfl) ?_
            refine Ops.x rfl rfl rfl (X.call cf27 rfl ?_)
            refine use_call (CW.refseal_any _ _ _ _ _ _ hst (by omega)) rfl ?_; clear hst; rintro e w5 ⟨rfl, hst⟩; refine ⟨_, rfl, ?_⟩
            refine Ops.y rfl rfl rfl hst.ctx (Y.assignT rfl) ?_
            refine Ops.y rfl rfl rfl hst.ctx (Y.assignI rfl) ?_
            refine Ops.done rfl ?_
            refine W.ret rfl ?_
            refine ⟨_, Rslt.two Try.results17 rfl rfl, ?_⟩
            exact ⟨ret2 (by unfold encV; rw [if_pos hok]; unfold fr; rw [List.take_length]), hst.drop⟩
          · replace hb79 := of_decide_eq_true hb79.symm
            refine W.condT rfl rfl ?_
            refine W.skip rfl ?_
            refine W.seq rfl ?_
            refine W.block rfl ?_
            refine W.seq rfl ?_
            have hk1 : k < tab.length := by omega
            have hlp := hwf _ (lp_mem hk1)
            refine W.region rfl ?_
            refine Ops.y rfl rfl rfl hst.ctx (Y.indexAddr Try.underlying26 Try.sizeOf45 rfl rfl (((hr.cons _).sl hst).ne (by rw [lcs_length]; omega)) (by omega)) ?_
            refine Ops.y rfl rfl rfl hst.ctx (Y.loadSlA Try.isAgg45 Try.sizeOf45 rfl (hr.cons _) (lcs_two hk1) rfl) ?_
            refine Ops.x rfl rfl rfl (X.allocA hst Try.zeroValue45 ?_)
            clear hst; intro p7 w7 hst
            first
            | refine Ops.x rfl rfl rfl (X.storeS hst 0 Try.sizeOf45 rfl rfl rfl rfl rfl (Nat.le_of_ble_eq_true rfl) rfl rfl ?_)
            | refine Ops.x rfl rfl rfl (X.storeS hst 1 Try.sizeOf45 rfl rfl rfl rfl rfl (Nat.le_of_ble_eq_true rfl) rfl rfl ?_)
            | refine Ops.x rfl rfl rfl (X.storeS hst 2 Try.sizeOf45 rfl rfl rfl rfl rfl (Nat.le_of_ble_eq_true rfl) rfl rfl ?_)
            | refine Ops.x rfl rfl rfl (X.storeS hst 3 Try.sizeOf45 rfl rfl rfl rfl rfl (Nat.le_of_ble_eq_true rfl) rfl rfl ?_)
            clear hst; intro w12_3 hst
            try simp only [List.set_cons_zero, List.set_cons_succ, Nat.zero_add, Nat.reduceAdd, splice, List.take, List.drop, List.append_eq, List.nil_append, List.cons_append, List.length_cons, List.length_nil] at hst
            refine Ops.done rfl ?_
            refine W.drawn rfl (by kernel_rfl) (Ctx _ _ (_) (_)) [] (.op 0 0 (.op 1 0 (.op 2 0 (.op 5 0 (.op 6 0 (.op 3 1 (.op 4 0 (.op 7 1 (.op 8 0 (.op 9 0 .nil)))))))))) rfl (by kernel_rfl) hst.drew.ctx ?_
            replace hst := hst.drew
            generalize World.drew _ = wd at hst ⊢
            refine Drw.y rfl rfl rfl hst.ctx (Y.moveT rfl) ?_
            first
            | refine Drw.y rfl rfl rfl hst.ctx (Y.fieldAddr fa45_0 rfl) ?_
            | refine Drw.y rfl rfl rfl hst.ctx (Y.fieldAddrP fa45_0 rfl) ?_
            first
            | refine Drw.y rfl rfl rfl hst.ctx (Y.load 0 Try.isAgg3 rfl rfl rfl) ?_
            | refine Drw.y rfl rfl rfl hst.ctx (Y.load 1 Try.isAgg3 rfl rfl rfl) ?_
            | refine Drw.y rfl rfl rfl hst.ctx (Y.load 2 Try.isAgg3 rfl rfl rfl) ?_
            | refine Drw.y rfl rfl rfl hst.ctx (Y.load 3 Try.isAgg3 rfl rfl rfl) ?_
            first
            | refine Drw.y rfl rfl rfl hst.ctx (Y.fieldAddr fa45_1 rfl) ?_
            | refine Drw.y rfl rfl rfl hst.ctx (Y.fieldAddrP fa45_1 rfl) ?_
            first
            | refine Drw.y rfl rfl rfl hst.ctx (Y.load 0 Try.isAgg3 rfl rfl rfl) ?_
            | refine Drw.y rfl rfl rfl hst.ctx (Y.load 1 Try.isAgg3 rfl rfl rfl) ?_
            | refine Drw.y rfl rfl rfl hst.ctx (Y.load 2 Try.isAgg3 rfl rfl rfl) ?_
            | refine Drw.y rfl rfl rfl hst.ctx (Y.load 3 Try.isAgg3 rfl rfl rfl) ?_
            refine Drw.x rfl rfl rfl (X.call cf26 rfl ?_)
            refine use_call (eight_any _ (by first | exact hlp.1 | exact hlp.2 | (refine hx64 _ ?_; simp)) _ _ _ _ _ hst) rfl ?_; clear hst; rintro e w85 ⟨rfl, hst⟩; refine ⟨_, rfl, ⟨hst.ctx, ?_⟩⟩
            refine Drw.y rfl rfl rfl hst.ctx (Y.addL rfl rfl (by first | (rw [hacc, be8_length]; omega) | (rw [List.length_append, hacc, be8_length, be8_length]; omega))) ?_
            refine Drw.x rfl rfl rfl (X.call cf26 rfl ?_)
            refine use_call (eight_any _ (by first | exact hlp.1 | exact hlp.2 | (refine hx64 _ ?_; simp)) _ _ _ _ _ hst) rfl ?_; clear hst; rintro e w89 ⟨rfl, hst⟩; refine ⟨_, rfl, ⟨hst.ctx, ?_⟩⟩
            refine Drw.y rfl rfl rfl hst.ctx (Y.addL rfl rfl (by first | (rw [hacc, be8_length]; omega) | (rw [List.length_append, hacc, be8_length, be8_length]; omega))) ?_
            refine Drw.y rfl rfl rfl hst.ctx (Y.assignT rfl) ?_
            refine Drw.done ?_
            refine W.region rfl ?_
            refine Ops.y rfl rfl rfl hst.ctx (Y.addI rfl rfl (by omega)) ?_
            refine Ops.y rfl rfl rfl hst.ctx (Y.moveI rfl) ?_
            refine Ops.done rfl ?_
            exact ⟨k + 1, ⟨congrArg (fun l => Value.string (str l)) ((nums2 _ _ _).trans (by rw [tin_snoc hk1]; simp only [List.append_assoc])), rfl, trivial⟩, ⟨rfl, rfl, trivial⟩, ⟨by omega, hst.drop⟩, by omega⟩
      cases ref
      · skip
        refine W.condF rfl rfl ?_
        refine W.skip rfl ?_
        exact ⟨(), ⟨congrArg (Value.int .u8) (by cases good <;> rfl), trivial⟩, ⟨rfl, trivial⟩, hst⟩
      · skip
        refine W.condT rfl rfl ?_
        refine W.region rfl ?_
        refine Ops.y rfl rfl rfl hst.ctx (Y.moveI rfl) ?_
        refine Ops.y rfl rfl rfl hst.ctx (Y.add rfl rfl) ?_
        refine Ops.y rfl rfl rfl hst.ctx (Y.assignI rfl) ?_
        refine Ops.done rfl ?_
        exact ⟨(), ⟨congrArg (Value.int .u8) (by cases good <;> rfl), trivial⟩, ⟨rfl, trivial⟩, hst⟩
    cases good
    · skip
      refine W.condF rfl rfl ?_
      refine W.skip rfl ?_
      exact ⟨(), ⟨rfl, trivial⟩, ⟨rfl, trivial⟩, hst⟩
    · skip
      refine W.condT rfl rfl ?_
      refine W.region rfl ?_
      refine Ops.y rfl rfl rfl hst.ctx (Y.moveI rfl) ?_
      refine Ops.y rfl rfl rfl hst.ctx (Y.add rfl rfl) ?_
      refine Ops.y rfl rfl rfl hst.ctx (Y.assignI rfl) ?_
      refine Ops.done rfl ?_
      exact ⟨(), ⟨rfl, trivial⟩, ⟨rfl, trivial⟩, hst⟩
end Go.Proofs.Ytkbkgpedpaodlaa.W
