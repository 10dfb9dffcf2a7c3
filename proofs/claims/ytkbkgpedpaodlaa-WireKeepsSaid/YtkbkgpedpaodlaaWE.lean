/- The walk of wire's Encode. -/
import Derived.Test.YtkbkgpedpaodlaaWN
import Derived.Test.YtkbkgpedpaodlaaE3
import Derived.Test.YtkbkgpedpaodlaaCX4
set_option linter.unusedVariables false
set_option linter.unusedSimpArgs false
namespace Go.Proofs.Ytkbkgpedpaodlaa.W
open Go.RowKit Go.Proofs.Ytkbkgpedpaodlaa.K Go.Proofs.Ytkbkgpedpaodlaa.CM
theorem sealed_len (l : List UInt8) : (sealed l).length = l.length + 4 := by unfold sealed; rw [List.length_append, le4_length]
def ub (n : Int) : UInt8 := UInt8.ofNat (n % 256).toNat
def fl1 (good : Bool) : Int := match good with | true => 1 | false => 0
def fl (good ref : Bool) : Int := match ref with | true => fl1 good + 2 | false => fl1 good
theorem ret2 {x : ByteArray × Int} {s : ByteArray} {i : Int} (h : x = (s, i)) : Ending.returned (.tuple #[.string s, .int .i64 i]) = .returned (.tuple #[.string x.1, .int .i64 x.2]) := by rw [h]
def tin (l : List (Int × Int)) : List Int := l.flatMap fun x => [x.1, x.2]
theorem tin_length (l : List (Int × Int)) : (tin l).length = 2 * l.length := by
  induction l with
  | nil => rfl
  | cons x l ih => simp [tin] at ih ⊢; omega
/-- The frame of a message, ahead of its check. -/
def hd4 (kind from_ : Int) (good ref : Bool) (n : Nat) : List UInt8 := [ub kind, ub from_, ub (fl good ref), ub (n : Int)]
def fr (kind from_ slo shi held hops : Int) (good ref : Bool) (elo ehi pulse time num : Int) (tab : List (Int × Int)) : List UInt8 :=
  hd4 kind from_ good ref tab.length ++ nums [slo, shi, held, hops, elo, ehi, pulse, time, num] ++ nums (tin tab)
theorem fr_length (kind from_ slo shi held hops : Int) (good ref : Bool) (elo ehi pulse time num : Int) (tab : List (Int × Int)) : (fr kind from_ slo shi held hops good ref elo ehi pulse time num tab).length = 76 + 16 * tab.length := by
  unfold fr
  rw [List.length_append, List.length_append, nums_length, nums_length, tin_length]
  simp [hd4]
  omega
theorem ub_val (n : Int) : Value.int .u8 (IntKind.u8.wrap n) = bv (ub n) := by
  rw [wrap_u8]
  unfold bv ub
  rw [UInt8.toNat_ofNat']
  exact congrArg (Value.int .u8) (by rw [show (2 : Nat) ^ 8 = 256 from rfl]; omega)
theorem lp_snoc {l : List (Int × Int)} {k : Nat} (h : k < l.length) : l.take (k + 1) = l.take k ++ [lp l k] := by
  rw [List.take_succ_eq_append_getElem h]
  simp [lp, h]
theorem tin_snoc {l : List (Int × Int)} {k : Nat} (h : k < l.length) : nums (tin (l.take (k + 1))) = nums (tin (l.take k)) ++ nums [(lp l k).1, (lp l k).2] := by
  rw [lp_snoc h]
  simp [tin, nums]
/-- What is told of a message that is handed in. -/
def MsgIn (kind from_ slo shi held hops elo ehi pulse time num : Int) (tab : List (Int × Int)) : Prop := tab.length ≤ 9223372036854775807 ∧ (∀ x ∈ tab, In64 x.1 ∧ In64 x.2) ∧ (∀ x ∈ [kind, from_, slo, shi, held, hops, elo, ehi, pulse, time, num], In64 x)
def Okm (kind from_ slo shi held hops elo ehi pulse time num : Int) (tab : List (Int × Int)) : Prop := HdOk kind from_ slo shi held hops elo ehi pulse time num ∧ TabOk tab
instance (kind from_ slo shi held hops elo ehi pulse time num : Int) (tab : List (Int × Int)) : Decidable (Okm kind from_ slo shi held hops elo ehi pulse time num tab) := by unfold Okm; infer_instance
/-- What Encode answers. -/
def encV (kind from_ slo shi held hops : Int) (good ref : Bool) (elo ehi pulse time num : Int) (tab : List (Int × Int)) : ByteArray × Int := if Okm kind from_ slo shi held hops elo ehi pulse time num tab then (str (sealed (fr kind from_ slo shi held hops good ref elo ehi pulse time num tab)), 0) else (⟨#[]⟩, 1)
theorem nines {slo shi held hops elo ehi pulse time num kind from_ : Int} (h : ∀ x ∈ [kind, from_, slo, shi, held, hops, elo, ehi, pulse, time, num], In64 x) : ∀ x ∈ [slo, shi, held, hops, elo, ehi, pulse, time, num], In64 x := by
  intro x hx
  refine h x ?_
  exact List.mem_cons_of_mem _ (List.mem_cons_of_mem _ hx)
theorem bd51_0 {S ρ ty} {parts : Array (Nat × Operand)} {x0a : Option Addr} {x0l x0c : Nat} (hp : (parts.toList.map fun x => (x.1, ev ρ x.2)) = [(0, Value.slice x0a x0l x0c)]) : Y Try.prog S ρ (.build 51 parts) ty (.agg #[Value.slice x0a x0l x0c]) :=
  Y.build hp fun w => by simp [Instr.build, go_sem]
theorem fa28_5 (a : Addr) (w : World) : (Instr.fieldAt 28 (.pointer (some a)) 5).run Try.prog w = .ok (.pointer (some (a.add 6))) w := by
  simp [Instr.fieldAt, Instr.sureAddr, go_sem]
theorem fa28_6 (a : Addr) (w : World) : (Instr.fieldAt 28 (.pointer (some a)) 6).run Try.prog w = .ok (.pointer (some (a.add 7))) w := by
  simp [Instr.fieldAt, Instr.sureAddr, go_sem]
theorem cf25 : ∀ args w, (callFunc 25 args).run Try.prog w = .ok (.enter 25 args) w := fun _ _ => by simp [go_sem]
theorem cfN : ∀ args w, (callFunc 24 args).run Try.prog w = .ok (.enter 24 args) w := fun _ _ => by simp [go_sem]

set_option maxHeartbeats 4000000 in
theorem Encode_any (kind from_ slo shi held hops : Int) (good ref : Bool) (elo ehi pulse time num : Int) (tab : List (Int × Int)) (A : Option Addr) (cap : Nat) (w0 w : World) (F0 : List Nat) (L G : List Res) (hst : St w0 F0 w L G)
    (hr : Rds L G (.slice A tab.length cap) tab.length (lcs tab)) (hin : MsgIn kind from_ slo shi held hops elo ehi pulse time num tab) :
    Calls Try.prog 16 #[.agg #[.int .i64 kind, .int .i64 from_, .int .i64 slo, .int .i64 shi, .int .i64 held, .int .i64 hops, .bool good, .bool ref, .int .i64 elo, .int .i64 ehi, .int .i64 pulse, .int .i64 time, .int .i64 num, .slice A tab.length cap]] w fun e w' => e = .returned (.tuple #[.string (encV kind from_ slo shi held hops good ref elo ehi pulse time num tab).1, .int .i64 (encV kind from_ slo shi held hops good ref elo ehi pulse time num tab).2]) ∧ St w0 F0 w' L G := by
  obtain ⟨hlen, hwf, hx64⟩ := hin
  refine W.func Try.func16 rfl Try.ntmps16 rfl ?_
  refine W.seq rfl ?_
  refine W.region rfl ?_
  refine Ops.x rfl rfl rfl (X.boxA hst rfl ?_)
  clear hst; intro p1 w1 hst
  refine Ops.y rfl rfl rfl hst.ctx (Y.assignT rfl) ?_
  refine Ops.y rfl rfl rfl hst.ctx (Y.assignI rfl) ?_
  refine Ops.done rfl ?_
  refine W.seq rfl ?_
  refine W.seq rfl ?_
  refine W.region rfl ?_
  first
  | refine Ops.y rfl rfl rfl hst.ctx (Y.loadA 0 Try.isAgg28 Try.sizeOf28 rfl rfl rfl rfl) ?_
  | refine Ops.y rfl rfl rfl hst.ctx (Y.loadA 1 Try.isAgg28 Try.sizeOf28 rfl rfl rfl rfl) ?_
  refine Ops.x rfl rfl rfl (X.call cf10 rfl ?_)
  refine use_call (good_any _ _ _ _ _ _ _ _ _ _ _ _ _ tab _ _ _ _ _ _ _ hst (hr.cons _) hlen hwf) rfl ?_; clear hst; rintro e w1 ⟨b10, rfl, hb10, hst⟩; refine ⟨_, rfl, ?_⟩
  cases b10
  · replace hb10 := of_decide_eq_false hb10.symm
    refine Ops.y rfl rfl rfl hst.ctx (Y.not rfl) ?_
    refine Ops.done rfl ?_
    refine W.condT rfl rfl ?_
    refine W.seq rfl ?_
    refine W.region rfl ?_
    refine Ops.y rfl rfl rfl hst.ctx (Y.assignT rfl) ?_
    refine Ops.y rfl rfl rfl hst.ctx (Y.assignI rfl) ?_
    refine Ops.done rfl ?_
    refine W.ret rfl ?_
    refine ⟨_, Rslt.two Try.results16 rfl rfl, ?_⟩
    exact ⟨ret2 (by unfold encV; exact if_neg hb10), hst.drop⟩
  · replace hb10 := of_decide_eq_true hb10.symm
    refine Ops.y rfl rfl rfl hst.ctx (Y.not rfl) ?_
    refine Ops.done rfl ?_
    refine W.condF rfl rfl ?_
    refine W.skip rfl ?_
    refine W.seq rfl ?_
    refine W.region rfl ?_
    refine Ops.y rfl rfl rfl hst.ctx (Y.assignI rfl) ?_
    refine Ops.done rfl ?_
    refine W.seq rfl ?_
    refine W.seq rfl ?_
    refine W.region rfl ?_
    first
    | refine Ops.y rfl rfl rfl hst.ctx (Y.fieldAddr fa28_5 rfl) ?_
    | refine Ops.y rfl rfl rfl hst.ctx (Y.fieldAddrP fa28_5 rfl) ?_
    first
    | refine Ops.y rfl rfl rfl hst.ctx (Y.load 0 Try.isAgg4 rfl rfl rfl) ?_
    | refine Ops.y rfl rfl rfl hst.ctx (Y.load 1 Try.isAgg4 rfl rfl rfl) ?_
    refine Ops.done rfl ?_
    refine W.cut [(1, .pointer _)] (fun _ : Unit => [(4, .int .i64 (fl1 good))]) (fun _ w => St w0 F0 w (cellsR p1 [.int .i64 kind, .int .i64 from_, .int .i64 slo, .int .i64 shi, .int .i64 held, .int .i64 hops, .bool good, .bool ref, .int .i64 elo, .int .i64 ehi, .int .i64 pulse, .int .i64 time, .int .i64 num, .slice A tab.length cap] 28 :: L) G) ⟨rfl, trivial⟩ ?_ ?_
    rotate_left
    · clear hst; rintro _ j w2 hst
      refine W.seq rfl ?_
      refine W.seq rfl ?_
      refine W.region rfl ?_
      first
      | refine Ops.y rfl rfl rfl hst.ctx (Y.fieldAddr fa28_6 rfl) ?_
      | refine Ops.y rfl rfl rfl hst.ctx (Y.fieldAddrP fa28_6 rfl) ?_
      first
      | refine Ops.y rfl rfl rfl hst.ctx (Y.load 0 Try.isAgg4 rfl rfl rfl) ?_
      | refine Ops.y rfl rfl rfl hst.ctx (Y.load 1 Try.isAgg4 rfl rfl rfl) ?_
      refine Ops.done rfl ?_
      refine W.cut [(1, .pointer _)] (fun _ : Unit => [(4, .int .i64 (fl good ref))]) (fun _ w => St w0 F0 w (cellsR p1 [.int .i64 kind, .int .i64 from_, .int .i64 slo, .int .i64 shi, .int .i64 held, .int .i64 hops, .bool good, .bool ref, .int .i64 elo, .int .i64 ehi, .int .i64 pulse, .int .i64 time, .int .i64 num, .slice A tab.length cap] 28 :: L) G) ⟨rfl, trivial⟩ ?_ ?_
      rotate_left
      · clear hst; rintro _ j w2 hst
        refine W.seq rfl ?_
        have htl := hb10.2.1
        have hok : Okm kind from_ slo shi held hops elo ehi pulse time num tab := hb10
        refine W.region rfl ?_
        first
        | refine Ops.y rfl rfl rfl hst.ctx (Y.fieldAddr fa28_0 rfl) ?_
        | refine Ops.y rfl rfl rfl hst.ctx (Y.fieldAddrP fa28_0 rfl) ?_
        first
        | refine Ops.y rfl rfl rfl hst.ctx (Y.load 0 Try.isAgg3 rfl rfl rfl) ?_
        | refine Ops.y rfl rfl rfl hst.ctx (Y.load 1 Try.isAgg3 rfl rfl rfl) ?_
        refine Ops.y rfl rfl rfl hst.ctx (Y.conv Try.underlying5 Try.underlying3 rfl) ?_
        first
        | refine Ops.y rfl rfl rfl hst.ctx (Y.fieldAddr fa28_1 rfl) ?_
        | refine Ops.y rfl rfl rfl hst.ctx (Y.fieldAddrP fa28_1 rfl) ?_
        first
        | refine Ops.y rfl rfl rfl hst.ctx (Y.load 0 Try.isAgg3 rfl rfl rfl) ?_
        | refine Ops.y rfl rfl rfl hst.ctx (Y.load 1 Try.isAgg3 rfl rfl rfl) ?_
        refine Ops.y rfl rfl rfl hst.ctx (Y.conv Try.underlying5 Try.underlying3 rfl) ?_
        refine Ops.y rfl rfl rfl hst.ctx (Y.moveI rfl) ?_
        refine Ops.y rfl rfl rfl hst.ctx (Y.conv Try.underlying5 Try.underlying3 rfl) ?_
        first
        | refine Ops.y rfl rfl rfl hst.ctx (Y.fieldAddr fa28_10 rfl) ?_
        | refine Ops.y rfl rfl rfl hst.ctx (Y.fieldAddrP fa28_10 rfl) ?_
        first
        | refine Ops.y rfl rfl rfl hst.ctx (Y.load 0 Try.isAgg26 rfl rfl rfl) ?_
        | refine Ops.y rfl rfl rfl hst.ctx (Y.load 1 Try.isAgg26 rfl rfl rfl) ?_
        refine Ops.y rfl rfl rfl hst.ctx (Y.lenS Try.underlying26 rfl) ?_
        refine Ops.y rfl rfl rfl hst.ctx (Y.conv Try.underlying5 Try.underlying3 rfl) ?_
        refine Ops.x rfl rfl rfl (X.litsRow hst Try.underlying41 Try.sizeOf5 Try.zeroValue5 (by rfl) (by rfl) (by rfl) [.int _ _, .int _ _, .int _ _, .int _ _] (by rfl) (by rfl) ?_)
        clear hst; intro p32 w32 hst
        simp only [ub_val] at hst
        replace hst : St w0 F0 _ (rowR (.slice (some ⟨p32, 0, none⟩) 4 4) 5 1 (hd4 kind from_ good ref tab.length).length (bvs (hd4 kind from_ good ref tab.length)) :: cellsR p1 [.int .i64 kind, .int .i64 from_, .int .i64 slo, .int .i64 shi, .int .i64 held, .int .i64 hops, .bool good, .bool ref, .int .i64 elo, .int .i64 ehi, .int .i64 pulse, .int .i64 time, .int .i64 num, .slice A tab.length cap] 28 :: L) G := hst
        refine Ops.y rfl rfl rfl hst.ctx (bd51_0 rfl) ?_
        refine Ops.x rfl rfl rfl (X.boxA hst rfl ?_)
        clear hst; intro p34 w34 hst
        refine Ops.y rfl rfl rfl hst.ctx (Y.assignP rfl) ?_
        refine Ops.done rfl ?_
        refine W.seq rfl ?_
        refine W.region rfl ?_
        refine Ops.y rfl rfl rfl hst.ctx (Y.moveP rfl) ?_
        refine Ops.y rfl rfl rfl hst.ctx (Y.makeFunc (fs := [.pointer _]) (cs := []) rfl rfl) ?_
        refine Ops.y rfl rfl rfl hst.ctx (Y.assignV rfl) ?_
        refine Ops.done rfl ?_
        refine W.seq rfl ?_
        refine W.region rfl ?_
        refine Ops.y rfl rfl rfl hst.ctx (Y.moveV rfl) ?_
        first
        | refine Ops.y rfl rfl rfl hst.ctx (Y.fieldAddr fa28_2 rfl) ?_
        | refine Ops.y rfl rfl rfl hst.ctx (Y.fieldAddrP fa28_2 rfl) ?_
        first
        | refine Ops.y rfl rfl rfl hst.ctx (Y.fieldAddr fa23_0 rfl) ?_
        | refine Ops.y rfl rfl rfl hst.ctx (Y.fieldAddrP fa23_0 rfl) ?_
        first
        | refine Ops.y rfl rfl rfl hst.ctx (Y.load 0 Try.isAgg3 rfl rfl rfl) ?_
        | refine Ops.y rfl rfl rfl hst.ctx (Y.load 1 Try.isAgg3 rfl rfl rfl) ?_
        | refine Ops.y rfl rfl rfl hst.ctx (Y.load 2 Try.isAgg3 rfl rfl rfl) ?_
        first
        | refine Ops.y rfl rfl rfl hst.ctx (Y.fieldAddr fa28_2 rfl) ?_
        | refine Ops.y rfl rfl rfl hst.ctx (Y.fieldAddrP fa28_2 rfl) ?_
        first
        | refine Ops.y rfl rfl rfl hst.ctx (Y.fieldAddr fa23_1 rfl) ?_
        | refine Ops.y rfl rfl rfl hst.ctx (Y.fieldAddrP fa23_1 rfl) ?_
        first
        | refine Ops.y rfl rfl rfl hst.ctx (Y.load 0 Try.isAgg3 rfl rfl rfl) ?_
        | refine Ops.y rfl rfl rfl hst.ctx (Y.load 1 Try.isAgg3 rfl rfl rfl) ?_
        | refine Ops.y rfl rfl rfl hst.ctx (Y.load 2 Try.isAgg3 rfl rfl rfl) ?_
        first
        | refine Ops.y rfl rfl rfl hst.ctx (Y.fieldAddr fa28_3 rfl) ?_
        | refine Ops.y rfl rfl rfl hst.ctx (Y.fieldAddrP fa28_3 rfl) ?_
        first
        | refine Ops.y rfl rfl rfl hst.ctx (Y.load 0 Try.isAgg3 rfl rfl rfl) ?_
        | refine Ops.y rfl rfl rfl hst.ctx (Y.load 1 Try.isAgg3 rfl rfl rfl) ?_
        | refine Ops.y rfl rfl rfl hst.ctx (Y.load 2 Try.isAgg3 rfl rfl rfl) ?_
        first
        | refine Ops.y rfl rfl rfl hst.ctx (Y.fieldAddr fa28_4 rfl) ?_
        | refine Ops.y rfl rfl rfl hst.ctx (Y.fieldAddrP fa28_4 rfl) ?_
        first
        | refine Ops.y rfl rfl rfl hst.ctx (Y.load 0 Try.isAgg3 rfl rfl rfl) ?_
        | refine Ops.y rfl rfl rfl hst.ctx (Y.load 1 Try.isAgg3 rfl rfl rfl) ?_
        | refine Ops.y rfl rfl rfl hst.ctx (Y.load 2 Try.isAgg3 rfl rfl rfl) ?_
        first
        | refine Ops.y rfl rfl rfl hst.ctx (Y.fieldAddr fa28_7 rfl) ?_
        | refine Ops.y rfl rfl rfl hst.ctx (Y.fieldAddrP fa28_7 rfl) ?_
        first
        | refine Ops.y rfl rfl rfl hst.ctx (Y.fieldAddr fa23_0 rfl) ?_
        | refine Ops.y rfl rfl rfl hst.ctx (Y.fieldAddrP fa23_0 rfl) ?_
        first
        | refine Ops.y rfl rfl rfl hst.ctx (Y.load 0 Try.isAgg3 rfl rfl rfl) ?_
        | refine Ops.y rfl rfl rfl hst.ctx (Y.load 1 Try.isAgg3 rfl rfl rfl) ?_
        | refine Ops.y rfl rfl rfl hst.ctx (Y.load 2 Try.isAgg3 rfl rfl rfl) ?_
        first
        | refine Ops.y rfl rfl rfl hst.ctx (Y.fieldAddr fa28_7 rfl) ?_
        | refine Ops.y rfl rfl rfl hst.ctx (Y.fieldAddrP fa28_7 rfl) ?_
        first
        | refine Ops.y rfl rfl rfl hst.ctx (Y.fieldAddr fa23_1 rfl) ?_
        | refine Ops.y rfl rfl rfl hst.ctx (Y.fieldAddrP fa23_1 rfl) ?_
        first
        | refine Ops.y rfl rfl rfl hst.ctx (Y.load 0 Try.isAgg3 rfl rfl rfl) ?_
        | refine Ops.y rfl rfl rfl hst.ctx (Y.load 1 Try.isAgg3 rfl rfl rfl) ?_
        | refine Ops.y rfl rfl rfl hst.ctx (Y.load 2 Try.isAgg3 rfl rfl rfl) ?_
        first
        | refine Ops.y rfl rfl rfl hst.ctx (Y.fieldAddr fa28_8 rfl) ?_
        | refine Ops.y rfl rfl rfl hst.ctx (Y.fieldAddrP fa28_8 rfl) ?_
        first
        | refine Ops.y rfl rfl rfl hst.ctx (Y.load 0 Try.isAgg3 rfl rfl rfl) ?_
        | refine Ops.y rfl rfl rfl hst.ctx (Y.load 1 Try.isAgg3 rfl rfl rfl) ?_
        | refine Ops.y rfl rfl rfl hst.ctx (Y.load 2 Try.isAgg3 rfl rfl rfl) ?_
        first
        | refine Ops.y rfl rfl rfl hst.ctx (Y.fieldAddr fa28_9 rfl) ?_
        | refine Ops.y rfl rfl rfl hst.ctx (Y.fieldAddrP fa28_9 rfl) ?_
        first
        | refine Ops.y rfl rfl rfl hst.ctx (Y.fieldAddr fa25_0 rfl) ?_
        | refine Ops.y rfl rfl rfl hst.ctx (Y.fieldAddrP fa25_0 rfl) ?_
        first
        | refine Ops.y rfl rfl rfl hst.ctx (Y.load 0 Try.isAgg3 rfl rfl rfl) ?_
        | refine Ops.y rfl rfl rfl hst.ctx (Y.load 1 Try.isAgg3 rfl rfl rfl) ?_
        | refine Ops.y rfl rfl rfl hst.ctx (Y.load 2 Try.isAgg3 rfl rfl rfl) ?_
        first
        | refine Ops.y rfl rfl rfl hst.ctx (Y.fieldAddr fa28_9 rfl) ?_
        | refine Ops.y rfl rfl rfl hst.ctx (Y.fieldAddrP fa28_9 rfl) ?_
        first
        | refine Ops.y rfl rfl rfl hst.ctx (Y.fieldAddr fa25_1 rfl) ?_
        | refine Ops.y rfl rfl rfl hst.ctx (Y.fieldAddrP fa25_1 rfl) ?_
        first
        | refine Ops.y rfl rfl rfl hst.ctx (Y.load 0 Try.isAgg3 rfl rfl rfl) ?_
        | refine Ops.y rfl rfl rfl hst.ctx (Y.load 1 Try.isAgg3 rfl rfl rfl) ?_
        | refine Ops.y rfl rfl rfl hst.ctx (Y.load 2 Try.isAgg3 rfl rfl rfl) ?_
        refine Ops.x rfl rfl rfl (X.lits hst Try.underlying70 Try.sizeOf3 Try.zeroValue3 (by rfl) (by rfl) (by rfl) [.int _ _, .int _ _, .int _ _, .int _ _, .int _ _, .int _ _, .int _ _, .int _ _, .int _ _] (by rfl) (by rfl) ?_)
        clear hst; intro p62 w62 hst
        have hup := hst.up3.up3
        refine Ops.x rfl rfl rfl (X.callV (fs := [_]) (cs := []) cfN rfl rfl ?_)
        refine use_call (nums_any _ (hd4 kind from_ good ref tab.length) _ _ _ [slo, shi, held, hops, elo, ehi, pulse, time, num] _ _ _ _ _ hup (Rds.ofCells 0 rfl 9 9) (nines hx64) (by simp [hd4])) rfl ?_
        clear hst hup; rintro e w2 ⟨rfl, v2, hst⟩; refine ⟨_, rfl, ?_⟩
        replace hst := hst.up3.drop
        refine Ops.done rfl ?_
        refine W.seq rfl ?_
        refine W.seq rfl ?_
        refine W.region rfl ?_
        first
        | refine Ops.y rfl rfl rfl hst.ctx (Y.fieldAddr fa28_10 rfl) ?_
        | refine Ops.y rfl rfl rfl hst.ctx (Y.fieldAddrP fa28_10 rfl) ?_
        first
        | refine Ops.y rfl rfl rfl hst.ctx (Y.load 0 Try.isAgg26 rfl rfl rfl) ?_
        | refine Ops.y rfl rfl rfl hst.ctx (Y.load 1 Try.isAgg26 rfl rfl rfl) ?_
        | refine Ops.y rfl rfl rfl hst.ctx (Y.load 2 Try.isAgg26 rfl rfl rfl) ?_
        | refine Ops.y rfl rfl rfl hst.ctx (Y.load 3 Try.isAgg26 rfl rfl rfl) ?_
        refine Ops.y rfl rfl rfl hst.ctx (Y.lenS Try.underlying26 rfl) ?_
        refine Ops.y rfl rfl rfl hst.ctx (Y.moveI rfl) ?_
        refine Ops.done rfl ?_
        refine W.block rfl ?_
        refine W.loop (γ := Nat) [(5, .pointer _), (6, _), (65, .slice _ _ _), (66, .int _ _)] (fun k => [(67, .int .i64 (k : Int))]) (fun k w => k ≤ tab.length ∧ ∃ v, St w0 F0 w (cellsR p34 [v] 51 :: rowR v 5 1 (hd4 kind from_ good ref tab.length ++ nums [slo, shi, held, hops, elo, ehi, pulse, time, num] ++ nums (tin (tab.take k))).length (bvs (hd4 kind from_ good ref tab.length ++ nums [slo, shi, held, hops, elo, ehi, pulse, time, num] ++ nums (tin (tab.take k)))) :: L) G) (fun k => tab.length - k) (0) rfl ⟨rfl, rfl, rfl, rfl, trivial⟩ ?_ ?_ ?_
        · exact ⟨rfl, trivial⟩
        · replace hst := hst.up3.drop
          exact ⟨by omega, v2, by simpa [tin, nums] using hst⟩
        · clear hst; rintro k j w3 ⟨hk, v3, hst⟩
          have hacc : (hd4 kind from_ good ref tab.length ++ nums [slo, shi, held, hops, elo, ehi, pulse, time, num] ++ nums (tin (tab.take k))).length = 76 + 16 * k := by
            rw [List.length_append, List.length_append, nums_length, nums_length, tin_length, List.length_take]; simp [hd4]; omega
          refine W.seq rfl ?_
          refine W.region rfl ?_
          refine Ops.yb rfl rfl rfl hst.ctx (Y.lss rfl rfl) (fun b68 hb68 => ?_)
          refine Ops.done rfl ?_
          refine W.seq rfl ?_
          cases b68
          · replace hb68 := of_decide_eq_false hb68.symm
            refine W.condF rfl rfl ?_
            refine W.exit rfl ?_
            refine W.seq rfl ?_
            have hkk : k = tab.length := by omega
            subst hkk
            refine W.region rfl ?_
            refine Ops.y rfl rfl rfl hst.ctx (Y.moveP rfl) ?_
            refine Ops.y rfl rfl rfl hst.ctx (Y.nilCheck rfl) ?_
            first
            | refine Ops.y rfl rfl rfl hst.ctx (Y.fieldAddr fa51_0 rfl) ?_
            | refine Ops.y rfl rfl rfl hst.ctx (Y.fieldAddrP fa51_0 rfl) ?_
            first
            | refine Ops.y rfl rfl rfl hst.ctx (Y.load 0 Try.isAgg41 rfl rfl rfl) ?_
            | refine Ops.y rfl rfl rfl hst.ctx (Y.load 1 Try.isAgg41 rfl rfl rfl) ?_
            | refine Ops.y rfl rfl rfl hst.ctx (Y.load 2 Try.isAgg41 rfl rfl rfl) ?_
            | refine Ops.y rfl rfl rfl hst.ctx (Y.load 3 Try.isAgg41 rfl rfl rfl) ?_
            refine Ops.x rfl rfl rfl (X.call cf25 rfl ?_)
            refine use_call (CW.seal_any _ _ _ _ _ _ _ hst (Rds.rowL 1 rfl) (by omega)) rfl ?_; clear hst; rintro e w5 ⟨p83, rfl, hst⟩; refine ⟨_, rfl, ?_⟩
            refine Ops.y rfl rfl rfl hst.ctx (Y.str Try.underlying41 Try.underlying5 Try.underlying9 rfl (Rds.ofCells 0 rfl _ _) (sealed_len _).symm) ?_
            refine Ops.y rfl rfl rfl hst.ctx (Y.assignT rfl) ?_
            refine Ops.y rfl rfl rfl hst.ctx (Y.assignI rfl) ?_
            refine Ops.done rfl ?_
            refine W.ret rfl ?_
            refine ⟨_, Rslt.two Try.results16 rfl rfl, ?_⟩
            exact ⟨ret2 (by unfold encV; rw [if_pos hok]; unfold fr; rw [List.take_length]), hst.drop.drop.drop⟩
          · replace hb68 := of_decide_eq_true hb68.symm
            refine W.condT rfl rfl ?_
            refine W.skip rfl ?_
            refine W.seq rfl ?_
            refine W.block rfl ?_
            refine W.seq rfl ?_
            have hk1 : k < tab.length := by omega
            have hlp := hwf _ (lp_mem hk1)
            refine W.region rfl ?_
            refine Ops.y rfl rfl rfl hst.ctx (Y.indexAddr Try.underlying26 Try.sizeOf45 rfl rfl ((((hr.cons _).cons _).sl hst).ne (by rw [lcs_length]; omega)) (by omega)) ?_
            refine Ops.y rfl rfl rfl hst.ctx (Y.loadSlA Try.isAgg45 Try.sizeOf45 rfl ((hr.cons _).cons _) (lcs_two hk1) rfl) ?_
            refine Ops.x rfl rfl rfl (X.allocA hst Try.zeroValue45 ?_)
            clear hst; intro p8 w8 hst
            first
            | refine Ops.x rfl rfl rfl (X.storeS hst 0 Try.sizeOf45 rfl rfl rfl rfl rfl (Nat.le_of_ble_eq_true rfl) rfl rfl ?_)
            | refine Ops.x rfl rfl rfl (X.storeS hst 1 Try.sizeOf45 rfl rfl rfl rfl rfl (Nat.le_of_ble_eq_true rfl) rfl rfl ?_)
            | refine Ops.x rfl rfl rfl (X.storeS hst 2 Try.sizeOf45 rfl rfl rfl rfl rfl (Nat.le_of_ble_eq_true rfl) rfl rfl ?_)
            | refine Ops.x rfl rfl rfl (X.storeS hst 3 Try.sizeOf45 rfl rfl rfl rfl rfl (Nat.le_of_ble_eq_true rfl) rfl rfl ?_)
            | refine Ops.x rfl rfl rfl (X.storeS hst 4 Try.sizeOf45 rfl rfl rfl rfl rfl (Nat.le_of_ble_eq_true rfl) rfl rfl ?_)
            clear hst; intro w13_3 hst
            try simp only [List.set_cons_zero, List.set_cons_succ, Nat.zero_add, Nat.reduceAdd, splice, List.take, List.drop, List.append_eq, List.nil_append, List.cons_append, List.length_cons, List.length_nil] at hst
            refine Ops.done rfl ?_
            refine W.region rfl ?_
            refine Ops.y rfl rfl rfl hst.ctx (Y.moveV rfl) ?_
            first
            | refine Ops.y rfl rfl rfl hst.ctx (Y.fieldAddr fa45_0 rfl) ?_
            | refine Ops.y rfl rfl rfl hst.ctx (Y.fieldAddrP fa45_0 rfl) ?_
            first
            | refine Ops.y rfl rfl rfl hst.ctx (Y.load 0 Try.isAgg3 rfl rfl rfl) ?_
            | refine Ops.y rfl rfl rfl hst.ctx (Y.load 1 Try.isAgg3 rfl rfl rfl) ?_
            | refine Ops.y rfl rfl rfl hst.ctx (Y.load 2 Try.isAgg3 rfl rfl rfl) ?_
            | refine Ops.y rfl rfl rfl hst.ctx (Y.load 3 Try.isAgg3 rfl rfl rfl) ?_
            | refine Ops.y rfl rfl rfl hst.ctx (Y.load 4 Try.isAgg3 rfl rfl rfl) ?_
            first
            | refine Ops.y rfl rfl rfl hst.ctx (Y.fieldAddr fa45_1 rfl) ?_
            | refine Ops.y rfl rfl rfl hst.ctx (Y.fieldAddrP fa45_1 rfl) ?_
            first
            | refine Ops.y rfl rfl rfl hst.ctx (Y.load 0 Try.isAgg3 rfl rfl rfl) ?_
            | refine Ops.y rfl rfl rfl hst.ctx (Y.load 1 Try.isAgg3 rfl rfl rfl) ?_
            | refine Ops.y rfl rfl rfl hst.ctx (Y.load 2 Try.isAgg3 rfl rfl rfl) ?_
            | refine Ops.y rfl rfl rfl hst.ctx (Y.load 3 Try.isAgg3 rfl rfl rfl) ?_
            | refine Ops.y rfl rfl rfl hst.ctx (Y.load 4 Try.isAgg3 rfl rfl rfl) ?_
            refine Ops.x rfl rfl rfl (X.lits hst Try.underlying70 Try.sizeOf3 Try.zeroValue3 (by rfl) (by rfl) (by rfl) [.int _ _, .int _ _] (by rfl) (by rfl) ?_)
            clear hst; intro p76 w76 hst
            have hup := hst.up4.up4
            refine Ops.x rfl rfl rfl (X.callV (fs := [_]) (cs := []) cfN rfl rfl ?_)
            refine use_call (nums_any _ _ _ _ _ [(lp tab k).1, (lp tab k).2] _ _ _ _ _ hup (Rds.ofCells 0 rfl 2 2) (by intro x hx; simp only [List.mem_cons, List.not_mem_nil, or_false] at hx; rcases hx with rfl | rfl; exact hlp.1; exact hlp.2) (by rw [hacc]; simp; omega)) rfl ?_
            clear hst hup; rintro e w4 ⟨rfl, v4, hst⟩; refine ⟨_, rfl, ?_⟩
            replace hst := hst.up3.drop.up3.drop
            refine Ops.done rfl ?_
            refine W.region rfl ?_
            refine Ops.y rfl rfl rfl hst.ctx (Y.addI rfl rfl (by omega)) ?_
            refine Ops.y rfl rfl rfl hst.ctx (Y.moveI rfl) ?_
            refine Ops.done rfl ?_
            exact ⟨k + 1, ⟨rfl, trivial⟩, ⟨rfl, rfl, rfl, rfl, trivial⟩, ⟨by omega, v4, by rw [tin_snoc hk1, ← List.append_assoc]; exact hst⟩, by omega⟩
      cases ref
      · skip
        refine W.condF rfl rfl ?_
        refine W.skip rfl ?_
        exact ⟨(), ⟨rfl, trivial⟩, ⟨rfl, trivial⟩, hst⟩
      · skip
        refine W.condT rfl rfl ?_
        refine W.region rfl ?_
        refine Ops.y rfl rfl rfl hst.ctx (Y.moveI rfl) ?_
        refine Ops.y rfl rfl rfl hst.ctx (Y.addI rfl rfl (by cases good <;> simp [fl1])) ?_
        refine Ops.y rfl rfl rfl hst.ctx (Y.assignI rfl) ?_
        refine Ops.done rfl ?_
        exact ⟨(), ⟨rfl, trivial⟩, ⟨rfl, trivial⟩, hst⟩
    cases good
    · skip
      refine W.condF rfl rfl ?_
      refine W.skip rfl ?_
      exact ⟨(), ⟨rfl, trivial⟩, ⟨rfl, trivial⟩, hst⟩
    · skip
      refine W.condT rfl rfl ?_
      refine W.region rfl ?_
      refine Ops.y rfl rfl rfl hst.ctx (Y.moveI rfl) ?_
      refine Ops.y rfl rfl rfl hst.ctx (Y.addI rfl rfl (by omega)) ?_
      refine Ops.y rfl rfl rfl hst.ctx (Y.assignI rfl) ?_
      refine Ops.done rfl ?_
      exact ⟨(), ⟨rfl, trivial⟩, ⟨rfl, trivial⟩, hst⟩
end Go.Proofs.Ytkbkgpedpaodlaa.W
