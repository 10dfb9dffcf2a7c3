/- What the proof rests on, part 4. -/
import Derived.Test.YtaanjifekgfemaaGreatM3
set_option linter.unusedVariables false
set_option linter.unusedSimpArgs false
set_option linter.unusedSectionVars false
section
namespace Go.Proofs.YtaanjifekgfemaaGreat.Cl
open Tryz
open Go.RowKit Go.Proofs.YtaanjifekgfemaaGreat.K Go.Proofs.YtaanjifekgfemaaGreat.W
attribute [local irreducible] bound clip adds sub neg mag mulp mul maxs
set_option maxHeartbeats 2000000 in
theorem follow_any (b : Nat) (T : TypeId) (p : Par) (hp : p.Ok) (s : Stt) (A : Option Addr) (cap : Nat) (rest : List Value) (l : List Hd) (hl : l.length ≤ 1000000) (B : Option Addr) (cb : Nat) (nx : Stt) (A2 : Option Addr) (c2 : Nat) (w0 w : World) (F0 : List Nat) (L G : List Res) (hst : St w0 F0 w (frR b T p s A cap rest :: L) G) (hr : Rds L G (.slice B l.length cb) l.length (flat hdC l)) (hfit : HdFit G l) (hrx : Rds [] G (.slice A2 (nx.tab).length c2) (nx.tab).length (lcs (nx.tab))) :
    Calls Tryz.prog 177 #[.pointer (some ⟨b, 0, none⟩), .slice B l.length cb, .agg #[.int .i64 nx.lo, .int .i64 nx.hi, .int .i64 nx.time, .bool nx.set, .int .i64 nx.held, .int .i64 nx.hops, .bool nx.good, .slice A2 nx.tab.length c2, .int .i64 nx.st, .int .i64 nx.sn, .int .i64 nx.life]] w fun e w' => ∃ ok A3 c3, e = .returned (.tuple #[.agg (sttC (followS p l nx) A3 c3).toArray, .bool ok]) ∧ ok = decide ((choose1 p (msgsF p l)).isSome = true) ∧ Rds [] G (.slice A3 ((followS p l nx).tab).length c3) ((followS p l nx).tab).length (lcs ((followS p l nx).tab)) ∧ St w0 F0 w' (frR b T p s A cap rest :: L) G := by
  replace hr := hr.cons (frR b T p s A cap rest); refine W.func func177 rfl ntmps177 rfl<|W.sr rfl<|Ops.ww rfl (X.boxA hst rfl fun p5 w5 hst => Ops.ww rfl (X.allocA hst zeroValue57 fun p6 w6 hst => hst.y rfl (Y.assignB rfl)<|Ops.ds rfl rfl<|hst.y rfl (Y.assignS rfl)<|Ops.done rfl<|W.seq rfl<|W.sr rfl<|?_)); replace hst := hst.nilRow 103 14; refine hst.y rfl (Y.moveS rfl)<|hst.y rfl (Y.lenS underlying97 rfl)<|hst.y rfl (Y.moveI rfl)<|Ops.done rfl<|W.block rfl<|?_; refine W.loop (γ := Nat × (Option Addr × Nat)) [(0, .pointer _), (5, .pointer _), (6, .pointer _), (14, .slice _ _ _), (15, .int _ _)] (fun x => [(8, .slice x.2.1 (msgsF p (l.take x.1)).length x.2.2), (16, .int .i64 (x.1 : Int))]) (fun x w => x.1 ≤ l.length ∧ St w0 F0 w (rowR (.slice x.2.1 (msgsF p (l.take x.1)).length x.2.2) 103 14 (msgsF p (l.take x.1)).length (flat mhC (msgsF p (l.take x.1))) :: cellsR p6 (sttC ⟨0, 0, 0, false, 0, 0, false, [], 0, 0, 0⟩ none 0) 57 :: cellsR p5 (sttC (nx) A2 c2) 57 :: frR b T p s A cap rest :: L) G) (fun x => l.length - x.1) ((0, (none, 0))) rfl ⟨rfl, rfl, rfl, rfl, rfl, trivial⟩ ?_ ?_ ?_
  · exact ⟨rfl, rfl, trivial⟩
  · exact ⟨by omega, hst⟩
  · clear hst; rintro ⟨k, ⟨A8, c8⟩⟩ j w5 ⟨hk, hst⟩; refine W.sr rfl<|hst.yb rfl (Y.lss rfl rfl) (fun b17 hb17 => Ops.done rfl<|W.seq rfl<|?_); cases b17
    · replace hb17 := dF hb17; refine W.condF rfl rfl<|W.exit rfl<|W.seq rfl<|?_; obtain rfl : k = l.length := by omega
      have hgl := msgsF_length p (l.take l.length); rw [List.length_take] at hgl; replace hgl : (msgsF p (l.take l.length)).length ≤ 1000000 := by omega
      have e1 : l.take l.length = l := List.take_length; refine W.region rfl<|hst.y rfl (Y.moveP rfl)<|hst.y rfl (Y.nilCheck rfl)<|hst.y rfl (Y.fieldAddr fa158_0 rfl)<|hst.y rfl (Y.fieldAddr fa60_0 rfl)<|hst.y rfl (Y.loadA 3 isAgg23 sizeOf23 rfl rfl rfl rfl)<|hst.y rfl (Y.moveS rfl)<|Ops.ww rfl (X.call cf185 rfl<|?_); refine use_call (choose_any p (msgsF p (l.take l.length)) hgl A8 c8 _ _ _ _ _ hst (Rds.rowL 0 rfl)) rfl ?_; clear hst; rintro e w49 ⟨b51, rfl, hb51, hst⟩; refine ⟨_, rfl, ?_⟩; refine hst.y rfl (Y.moveU rfl)<|hst.y rfl (Y.extract rfl rfl)<|hst.y rfl (Y.extract rfl rfl)<|Ops.ww rfl (X.allocA hst zeroValue103 fun p12 w12 hst => Ops.ww rfl (X.storeS hst 0 sizeOf103 rfl rfl rfl rfl rfl (lZ rfl) rfl rfl fun w10_11 hst => hst.y rfl (Y.assignB rfl)<|Ops.done rfl<|W.seq rfl<|W.sr rfl<|hst.y rfl (Y.moveB rfl)<|?_)); cases b51
      · replace hb51 := dF hb51; refine hst.y rfl (Y.not rfl)<|Ops.done rfl<|W.condT rfl rfl<|W.sr rfl<|hst.y rfl (Y.loadA 3 isAgg57 sizeOf57 rfl rfl rfl rfl)<|Ops.ww rfl (X.storeS hst 2 sizeOf57 rfl rfl rfl rfl rfl (lZ rfl) rfl rfl fun w12_1 hst => hst.y rfl (Y.assignB rfl)<|Ops.done rfl<|W.ret rfl<|⟨_, Rslt.cellTmp results177 rfl (res_at isAgg57 sizeOf57 2 hst rfl rfl) rfl, ?_⟩); rw [e1] at hb51; have hn : choose1 p (msgsF p l) = none := by cases hc : choose1 p (msgsF p l) with | none => rfl | some z => rw [hc] at hb51; exact absurd rfl hb51
        have hq : followS p l nx = nx := by unfold followS; rw [hn]
        exact ⟨false, A2, c2, congrArg (fun q => Ending.returned (.tuple #[.agg (sttC q A2 c2).toArray, .bool false])) hq.symm, by rw [hn]; rfl, by rw [hq]; exact hrx, (hst.dr 4)⟩
      · replace hb51 := dT hb51; refine hst.y rfl (Y.not rfl)<|Ops.done rfl<|W.condF rfl rfl<|W.skip rfl<|W.seq rfl<|?_; replace hst := hst.up_3; obtain ⟨hd, hh⟩ := Option.isSome_iff_exists.1 hb51; have hu := choose1_some hh; obtain ⟨y, hy, hyd⟩ := msgsF_mem hu.1; have hyf := hfit y (by rwa [e1] at hy); have hdf : TabFit hd.m.tab ∧ Rds [] G (.slice hd.A hd.m.tab.length hd.cap) hd.m.tab.length (lcs hd.m.tab) := by rw [hyd]; exact hyf
        have hho : 0 ≤ hd.m.hops ∧ hd.m.hops < p.D := ⟨hu.2.2.2.1, hu.2.2.2.2.1⟩; have hpD := hp.D; rw [hh] at hst; refine hst.dw 1 [] (T0 [0,1,2,3,4,5,6,8] (T1 [7,9] (.op 10 0 (.op 11 1 (.op 12 0 (.op 13 1 (.op 14 0 (.op 15 1 .nil)))))))) rfl (by kernel_rfl) rfl (by kernel_rfl) fun wd hst => ?_; refine Drw.q rfl (hst.cx 1) (Y.fieldAddr fa103_2 rfl)<|Drw.q rfl (hst.cx 1) (Y.loadA 0 isAgg53 sizeOf53 rfl rfl rfl rfl)<|Drw.q rfl (hst.cx 1) (Y.fieldAddr fa103_4 rfl)<|Drw.q rfl (hst.cx 1) (Y.load 0 isAgg3 rfl rfl rfl)<|Drw.q rfl (hst.cx 1) (Y.addI rfl rfl (by show _ ≤ hd.m.hops + 1 ∧ hd.m.hops + 1 ≤ _; omega))<|?_; refine Drw.q rfl (hst.cx 1) (Y.fieldAddr fa103_3 rfl)<|Drw.q rfl (hst.cx 1) (Y.load 0 isAgg3 rfl rfl rfl)<|Drw.q rfl (hst.cx 1) (Y.fieldAddr fa57_0 rfl)<|Drw.ww rfl (X.ret cf121 (more_any _ _ _ _ _ _ hst ) rfl fun w62 hst => ⟨(hst.cx 1), Drw.ww rfl (X.storeS hst 0 sizeOf53 rfl rfl rfl rfl rfl (lZ rfl) rfl rfl fun w13_9 hst => ⟨(hst.cx 1), Drw.q rfl (hst.cx 1) (Y.fieldAddr fa57_4 rfl)<|Drw.ww rfl (X.storeV hst 0 (.int _ _) sizeOf3 rfl rfl rfl rfl (lZ rfl) rfl rfl fun w13_11 hst => ⟨(hst.cx 1), Drw.q rfl (hst.cx 1) (Y.fieldAddr fa57_5 rfl)<|Drw.ww rfl (X.storeV hst 0 (.bool _) sizeOf4 rfl rfl rfl rfl (lZ rfl) rfl rfl fun w13_13 hst => ⟨(hst.cx 1), Drw.q rfl (hst.cx 1) (Y.fieldAddr fa57_3 rfl)<|Drw.ww rfl (X.storeV hst 0 (.int _ _) sizeOf3 rfl rfl rfl rfl (lZ rfl) rfl rfl fun w13_15 hst => ⟨(hst.cx 1), Drw.done<|W.seq rfl<|?_⟩)⟩)⟩)⟩)⟩); refine W.cut [(5, .pointer _), (6, .pointer _)] (fun _ : Option Addr × Nat => []) (fun x w => Rds [] G (.slice x.1 ((followH nx hd).tab).length x.2) ((followH nx hd).tab).length (lcs ((followH nx hd).tab)) ∧ St w0 F0 w (cellsR p5 (sttC (followH nx hd) x.1 x.2) 57 :: cellsR p6 (sttC ⟨0, 0, 0, false, 0, 0, false, [], 0, 0, 0⟩ none 0) 57 :: frR b T p s A cap rest :: L) G) ⟨rfl, rfl, trivial⟩ ?_ ?_
        rotate_left
        · clear hst; rintro ⟨A9, c9⟩ j w14 ⟨hr9, hst⟩; refine W.sr rfl<|hst.y rfl (Y.loadA 0 isAgg57 sizeOf57 rfl rfl rfl rfl)<|Ops.ww rfl (X.storeS hst 1 sizeOf57 rfl rfl rfl rfl rfl (lZ rfl) rfl rfl fun w16_1 hst => hst.y rfl (Y.assignB rfl)<|Ops.done rfl<|W.ret rfl<|⟨_, Rslt.cellTmp results177 rfl (res_at isAgg57 sizeOf57 1 hst rfl rfl) rfl, ?_⟩); rw [e1] at hh; have hq : followS p l nx = followH nx hd := by unfold followS; rw [hh]
          exact ⟨true, A9, c9, congrArg (fun q => Ending.returned (.tuple #[.agg (sttC q A9 c9).toArray, .bool true])) hq.symm, by rw [hh]; rfl, by rw [hq]; exact hr9, (hst.dr 2)⟩
        refine W.sr rfl<|hst.y rfl (Y.fieldAddr fa103_10 rfl)<|hst.y rfl (Y.load 1 isAgg41 rfl rfl rfl)<|Ops.ww rfl (X.retB cf41 (good_tab hd.m.tab _ _ hdf.1.1 hdf.1.2 _ _ _ _ _ hst hdf.2.hd) rfl fun b69 w69 hb69 hst => Ops.done rfl<|?_); cases b69
        · replace hb69 := dF hb69; refine W.condF rfl rfl<|W.skip rfl<|?_; have hq : followH nx hd = { nx with lo := hd.m.slo, hi := hd.m.shi, hops := hd.m.hops + 1, good := true, held := moreHeld hd.m.held } := by unfold followH; rw [if_neg hb69]
          exact ⟨(A2, c2), trivial, ⟨rfl, rfl, trivial⟩, by rw [hq]; exact hrx, by rw [hq]; exact (hst.sub (.cons_cons _ (.cons _ (.cons _ (.cons_cons _ (.cons_cons _ (.refl _)))))))⟩
        · replace hb69 := dT hb69; refine W.condT rfl rfl<|W.region rfl<|hst.y rfl (Y.fieldAddr fa103_10 rfl)<|hst.y rfl (Y.load 1 isAgg41 rfl rfl rfl)<|hst.y rfl (Y.fieldAddr fa57_6 rfl)<|Ops.ww rfl (X.storeV hst 0 (.slice _ _ _) sizeOf41 rfl rfl rfl rfl (lZ rfl) rfl rfl fun w15_3 hst => Ops.done rfl<|?_); have hq : followH nx hd = { { nx with lo := hd.m.slo, hi := hd.m.shi, hops := hd.m.hops + 1, good := true, held := moreHeld hd.m.held } with tab := hd.m.tab } := by unfold followH; rw [if_pos hb69]
          exact ⟨(hd.A, hd.cap), trivial, ⟨rfl, rfl, trivial⟩, by rw [hq]; exact hdf.2, by rw [hq]; exact (hst.sub (.cons_cons _ (.cons _ (.cons _ (.cons_cons _ (.cons_cons _ (.refl _)))))))⟩
    · replace hb17 := dT hb17; refine W.condT rfl rfl<|W.skip rfl<|W.seq rfl<|W.block rfl<|W.seq rfl<|?_; have hk1 : k < l.length := by omega
      have hml := msgsF_length p (l.take k); rw [List.length_take] at hml; refine W.region rfl<|hst.y rfl (Y.indexAddr underlying97 sizeOf138 rfl rfl ((Rds.sl (((hr.cons _).cons _).cons _) hst).ne (flat_pos hdC_len (by decide) (by omega))) (by omega))<|?_; refine hst.y rfl (Y.loadSlA isAgg138 sizeOf138 rfl (((hr.cons _).cons _).cons _) (flat_atI hdC_len l k hk1) (hdC_len _))<|Ops.ww rfl (X.allocA hst zeroValue138 fun p10 w10 hst => Ops.ww rfl (X.storeS hst 0 sizeOf138 rfl rfl rfl rfl rfl (lZ rfl) rfl rfl fun w4_3 hst => Ops.ds rfl rfl<|hst.y rfl (Y.fieldAddr fa138_0 rfl)<|hst.y rfl (Y.loadA 0 isAgg103 sizeOf103 rfl rfl rfl rfl)<|Ops.ww rfl (X.allocA hst zeroValue103 fun p11 w11 hst => Ops.ww rfl (X.storeS hst 0 sizeOf103 rfl rfl rfl rfl rfl (lZ rfl) rfl rfl fun w5_3 hst => Ops.ds rfl rfl<|hst.y rfl (Y.fieldAddr fa103_2 rfl)<|hst.y rfl (Y.loadA 0 isAgg53 sizeOf53 rfl rfl rfl rfl)<|Ops.ww rfl (X.retB cf36 (empty_any _ _ _ _ _ _ _ hst ) rfl fun b24 w24 hb24 hst => ?_))))); cases b24
      · replace hb24 := dF hb24; refine hst.y rfl (Y.not rfl)<|Ops.done rfl<|W.condT rfl rfl<|W.seq rfl<|W.drawn rfl (by kernel_rfl) (Ctx _ _ (_) (_)) [11] (.op 0 0 (.op 1 0 (.op 2 0 (.op 3 0 (.op 4 0 (.op 5 0 (.op 6 0 (.op 7 0 (.op 8 0 (.op 9 1 (.op 10 0 (.op 11 1 .nil)))))))))))) rfl (by kernel_rfl) hst.drew.ctx<|?_; replace hst := hst.drew; generalize World.drew _ = wd at hst ⊢; refine hst.z rfl (Y.moveP rfl)<|hst.z rfl (Y.nilCheck rfl)<|hst.z rfl (Y.fieldAddr fa158_0 rfl)<|hst.z rfl (Y.fieldAddr fa60_0 rfl)<|hst.z rfl (Y.loadA 5 isAgg23 sizeOf23 rfl rfl rfl rfl)<|hst.z rfl (Y.fieldAddr fa103_2 rfl)<|hst.z rfl (Y.loadA 0 isAgg53 sizeOf53 rfl rfl rfl rfl)<|hst.z rfl (Y.fieldAddr fa138_1 rfl)<|hst.z rfl (Y.load 1 isAgg3 rfl rfl rfl)<|Drw.ww rfl (X.ret cf119 (way_any p _ _ _ _ _ _ _ _ hst ) rfl fun w35 hst => ⟨hst.ctx, hst.z rfl (Y.fieldAddr fa103_2 rfl)<|Drw.z rfl rfl rfl rfl (X.storeS hst 0 sizeOf53 rfl rfl rfl rfl rfl (lZ rfl) rfl rfl fun w7_11 hst => Drw.done<|W.region rfl<|hst.y rfl (Y.moveS rfl)<|hst.y rfl (Y.loadA 0 isAgg103 sizeOf103 rfl rfl rfl rfl)<|Ops.ww rfl (X.lit1 hst underlying90 sizeOf103 zeroValue103 rfl rfl rfl fun p39 w39 hst => Ops.ww rfl (X.app hst 3 0 underlying90 info103 rfl rfl rfl rfl rfl rfl rfl rfl (by dsimp only; unfold maxLen; omega) (by dsimp only; omega) fun A40 c40 w40 hst => ?_)))⟩); refine hst.y rfl (Y.assignS rfl)<|Ops.done rfl<|W.region rfl<|hst.y rfl (Y.addI rfl rfl (by omega))<|hst.y rfl (Y.moveI rfl)<|Ops.done rfl<|?_; have e2 : msgsF p (l.take (k + 1)) = msgsF p (l.take k) ++ [wayM p l[k]] := by rw [msgsF_snoc p l k hk1]; exact if_neg hb24
        have e5 : (msgsF p (l.take k) ++ [wayM p l[k]]).length = (msgsF p (l.take k)).length + 1 := by simp
        have e6 : flat mhC (msgsF p (l.take k) ++ [wayM p l[k]]) = flat mhC (msgsF p (l.take k)) ++ mhC (wayM p l[k]) := by rw [flat_append]; simp [flat]
        refine ⟨(k + 1, (A40, c40)), ⟨?_, rfl, trivial⟩, ⟨rfl, rfl, rfl, rfl, rfl, trivial⟩, ⟨by omega, by rw [e2, e5, e6]; exact (hst.dr 3)⟩, by dsimp only at *; omega⟩; rw [e2, e5]; rfl
      · replace hb24 := dT hb24; refine hst.y rfl (Y.not rfl)<|Ops.done rfl<|W.condF rfl rfl<|W.skip rfl<|W.region rfl<|hst.y rfl (Y.addI rfl rfl (by omega))<|hst.y rfl (Y.moveI rfl)<|Ops.done rfl<|?_; have e2 : msgsF p (l.take (k + 1)) = msgsF p (l.take k) := by rw [msgsF_snoc p l k hk1]; exact if_pos hb24
        refine ⟨(k + 1, (A8, c8)), ⟨?_, rfl, trivial⟩, ⟨rfl, rfl, rfl, rfl, rfl, trivial⟩, ⟨by omega, by rw [e2]; exact (hst.dr 2)⟩, by dsimp only at *; omega⟩; rw [e2]; rfl
end Go.Proofs.YtaanjifekgfemaaGreat.Cl
end
section
namespace Go.Proofs.YtaanjifekgfemaaGreat.Cl
open Tryz
open Go.RowKit Go.Proofs.YtaanjifekgfemaaGreat.K Go.Proofs.YtaanjifekgfemaaGreat.W
def skE (s : ByteArray) : Value := .string s
abbrev CT := List (Ent ByteArray Int)
def CtFit (n : Int) (es : CT) : Prop := ∀ e ∈ es, 0 ≤ e.val ∧ e.val ≤ n
theorem getV_in {es : CT} {n : Int} (h : CtFit n es) (hn : 0 ≤ n) (k : ByteArray) : 0 ≤ (getV k es).getD 0 ∧ (getV k es).getD 0 ≤ n := by
  induction es with
  | nil => exact ⟨Int.le_refl _, hn⟩
  | cons x es ih =>
    unfold getV; split
    · exact h x List.mem_cons_self
    · exact ih (fun e he => h e (List.mem_cons_of_mem _ he))
theorem CtFit.put {es : CT} {n : Int} (h : CtFit n es) (k : ByteArray) (v : Int) (hv : 0 ≤ v ∧ v ≤ n + 1) (clock : Nat) : CtFit (n + 1) (putV k v clock es) := by
  have hs : ∀ es : CT, CtFit n es → CtFit (n + 1) (setV k v es) := by
    intro es
    induction es with
    | nil => intro _ e he; cases he
    | cons x es ih =>
      intro h e he; unfold setV at he; split at he
      · rcases List.mem_cons.1 he with rfl | he
        · exact hv
        · have := h e (List.mem_cons_of_mem _ he); omega
      · rcases List.mem_cons.1 he with rfl | he
        · have := h e List.mem_cons_self; omega
        · exact ih (fun e he => h e (List.mem_cons_of_mem _ he)) e he
  unfold putV; split
  · exact hs es h
  · intro e he; rcases List.mem_append.1 he with he | he
    · have := h e he; omega
    · rw [List.mem_singleton] at he; subst he; exact hv
def strC (l : List ByteArray) : List Value := l.map Value.string
theorem strC_get {l : List ByteArray} {k : Nat} (h : k < l.length) : (strC l)[(k : Int).toNat * 1]? = some (.string l[k]) := by
  rw [show (k : Int).toNat * 1 = k by omega]; simp [strC, h]
end Go.Proofs.YtaanjifekgfemaaGreat.Cl
end
section
namespace Go.Proofs.YtaanjifekgfemaaGreat.Cl
open Tryz
open Go.RowKit Go.Proofs.YtaanjifekgfemaaGreat.K Go.Proofs.YtaanjifekgfemaaGreat.W
attribute [local irreducible] bound clip adds sub neg mag mulp mul maxs
theorem keysS : Keys Tryz.prog 9 skE := ⟨_, underlying9, fun k => by simp [skE, Go.MapKept.IsKey], fun a b => by
    have e : (a == b) = decide (a = b) := by rw [Bool.eq_iff_iff, decide_eq_true_eq]; exact Go.MapKept.bytes_beq a b
    simp [skE, Instr.sameNow, e]⟩
theorem agreed_any (f : Int) (l : List ByteArray) (hl : l.length ≤ 1000000) (A : Option Addr) (cap : Nat) (w0 w : World) (F0 : List Nat) (L G : List Res) (hst : St w0 F0 w L G) (hr : Rds L G (.slice A l.length cap) l.length (strC l)) :
    Calls Tryz.prog 188 #[.int .i64 f, .slice A l.length cap] w fun e w' => ∃ s b, e = .returned (.tuple #[.string s, .bool b]) ∧ (b = true → s ∈ l) ∧ St w0 F0 w' L G := by
  refine W.func func188 rfl ntmps188 rfl<|W.sr rfl<|hst.y rfl (Y.assignT rfl)<|hst.y rfl (Y.assignB rfl)<|Ops.ds rfl rfl<|Ops.ww rfl (X.makeMap hst skE ikE fun mb w15 hst => hst.y rfl (Y.assignV rfl)<|Ops.done rfl<|W.seq rfl<|W.sr rfl<|hst.y rfl (Y.moveS rfl)<|hst.y rfl (Y.lenS underlying28 rfl)<|hst.y rfl (Y.moveI rfl)<|Ops.done rfl<|W.block rfl<|?_); refine W.loop (γ := Nat × CT × Nat) [(0, .int _ _), (1, .slice _ _ _), (6, _), (16, .slice _ _ _), (17, .int _ _)] (fun x => [(18, .int .i64 (x.1 : Int))]) (fun x w => (x.1 ≤ l.length ∧ CtFit (x.1 : Int) x.2.1) ∧ St w0 F0 w (mapR skE ikE mb x.2.1 x.2.2 :: L) G) (fun x => l.length - x.1) ((0, [], 0)) rfl ⟨rfl, rfl, rfl, rfl, rfl, trivial⟩ ?_ ?_ ?_
  · exact ⟨rfl, trivial⟩
  · exact ⟨⟨by omega, fun e he => by cases he⟩, hst⟩
  · clear hst; rintro ⟨k, es, clock⟩ j w3 ⟨⟨hk, hfit⟩, hst⟩; dsimp only at hfit; refine W.sr rfl<|hst.yb rfl (Y.lss rfl rfl) (fun b19 hb19 => Ops.done rfl<|W.seq rfl<|?_); cases b19
    · replace hb19 := dF hb19; refine W.condF rfl rfl<|W.exit rfl<|W.sr rfl<|hst.y rfl (Y.assignI rfl)<|hst.y rfl (Y.assignI rfl)<|Ops.done rfl<|W.seq rfl<|W.sr rfl<|hst.y rfl (Y.moveS rfl)<|hst.y rfl (Y.lenS underlying28 rfl)<|hst.y rfl (Y.moveI rfl)<|Ops.done rfl<|W.block rfl<|?_; refine W.loop (γ := Nat × Int × Int) [(0, .int _ _), (1, .slice _ _ _), (6, _), (27, .slice _ _ _), (28, .int _ _)] (fun x => [(29, .int .i64 (x.1 : Int)), (9, .int .i64 x.2.1), (10, .int .i64 x.2.2)]) (fun x w => (x.1 ≤ l.length ∧ -1 ≤ x.2.1 ∧ x.2.1 < (l.length : Int)) ∧ St w0 F0 w (mapR skE ikE mb es clock :: L) G) (fun x => l.length - x.1) ((0, -1, 0)) rfl ⟨rfl, rfl, rfl, rfl, rfl, trivial⟩ ?_ ?_ ?_
      · exact ⟨rfl, rfl, rfl, trivial⟩
      · exact ⟨⟨by omega, by decide, by dsimp only; omega⟩, hst⟩
      · clear hst; rintro ⟨k, best, count⟩ j w3 ⟨⟨hk, hb1, hb2⟩, hst⟩; dsimp only at hb1 hb2; have hq1 : (k, best, count).snd.fst = best := rfl; have hq2 : (k, best, count).snd.snd = count := rfl; refine W.sr rfl<|hst.yb rfl (Y.lss rfl rfl) (fun b30 hb30 => Ops.done rfl<|W.seq rfl<|?_); cases b30
        · replace hb30 := dF hb30; refine W.condF rfl rfl<|W.exit rfl<|W.seq rfl<|W.sr rfl<|hst.y rfl (Y.moveI rfl)<|hst.yb rfl (Y.lss rfl rfl) (fun b49 hb49 => Ops.done rfl<|?_); cases b49
          · replace hb49 := dF hb49; refine W.condF rfl rfl<|W.skip rfl<|W.seq rfl<|?_; obtain ⟨bn, rfl⟩ : ∃ n : Nat, best = (n : Int) := ⟨best.toNat, by omega⟩; have hbn : bn < l.length := by omega
            refine W.region rfl<|hst.y rfl (Y.moveS rfl)<|hst.y rfl (Y.moveI rfl)<|hst.y rfl (Y.indexAddr underlying28 sizeOf9 rfl rfl ((Rds.sl (hr.cons _) hst).ne (by simp [strC]; omega)) (by omega))<|?_; refine hst.y rfl (Y.loadSl isAgg9 rfl (hr.cons _) (strC_get (l := l) (k := bn) hbn))<|hst.y rfl (Y.assignT rfl)<|hst.y rfl (Y.assignB rfl)<|Ops.done rfl<|W.ret rfl<|⟨_, Rslt.two results188 rfl rfl, ?_⟩; exact ⟨_, true, rfl, fun _ => List.getElem_mem hbn, (hst.dr 1)⟩
          · replace hb49 := dT hb49; refine W.condT rfl rfl<|W.sr rfl<|hst.y rfl (Y.assignT rfl)<|Ops.ds rfl rfl<|hst.y rfl (Y.moveT rfl)<|hst.y rfl (Y.assignT rfl)<|hst.y rfl (Y.assignB rfl)<|Ops.done rfl<|W.ret rfl<|⟨_, Rslt.two results188 rfl rfl, ?_⟩; exact ⟨_, false, rfl, fun h => (by cases h), (hst.dr 1)⟩
        · replace hb30 := dT hb30; refine W.condT rfl rfl<|W.skip rfl<|W.seq rfl<|W.block rfl<|W.seq rfl<|?_; have hk1 : k < l.length := by omega
          refine W.region rfl<|hst.y rfl (Y.moveI rfl)<|hst.y rfl (Y.indexAddr underlying28 sizeOf9 rfl rfl ((Rds.sl (hr.cons _) hst).ne (by simp [strC]; omega)) (by omega))<|?_; refine hst.y rfl (Y.loadSl isAgg9 rfl (hr.cons _) (strC_get hk1))<|hst.y rfl (Y.assignI rfl)<|hst.y rfl (Y.assignT rfl)<|Ops.ds rfl rfl<|hst.y rfl (Y.moveV rfl)<|hst.y rfl (Y.moveT rfl)<|hst.y rfl (Y.lookupV keysS underlying311 zeroValue3 (z0 := 0) 0 rfl rfl (k := l[k]) rfl)<|hst.y rfl (Y.assignI rfl)<|Ops.ds rfl rfl<|hst.y rfl (Y.moveI rfl)<|hst.y rfl (Y.moveI rfl)<|hst.yb rfl (Y.gtr rfl rfl) (fun b39 hb39 => hst.y rfl (Y.moveB rfl)<|?_); cases b39
          · replace hb39 := dF hb39; refine Ops.nn rfl<|Ops.nn rfl<|Ops.nn rfl<|hst.y rfl (Y.pB rfl rfl)<|Ops.done rfl<|W.condF rfl rfl<|W.skip rfl<|W.region rfl<|hst.y rfl (Y.addI rfl rfl (by omega))<|hst.y rfl (Y.moveI rfl)<|Ops.done rfl<|?_; exact ⟨(k + 1, best, count), ⟨rfl, rfl, rfl, trivial⟩, ⟨rfl, rfl, rfl, rfl, rfl, trivial⟩, ⟨⟨by omega, hb1, hb2⟩, hst⟩, by dsimp only at *; omega⟩
          · replace hb39 := dT hb39; refine hst.y rfl (Y.moveI rfl)<|hst.y rfl (Y.moveI rfl)<|hst.yb rfl (Y.gtr rfl rfl) (fun b43 hb43 => hst.y rfl (Y.pB rfl rfl)<|Ops.done rfl<|?_); cases b43
            · replace hb43 := dF hb43; refine W.condF rfl rfl<|W.skip rfl<|W.region rfl<|hst.y rfl (Y.addI rfl rfl (by omega))<|hst.y rfl (Y.moveI rfl)<|Ops.done rfl<|?_; exact ⟨(k + 1, best, count), ⟨rfl, rfl, rfl, trivial⟩, ⟨rfl, rfl, rfl, rfl, rfl, trivial⟩, ⟨⟨by omega, hb1, hb2⟩, hst⟩, by dsimp only at *; omega⟩
            · replace hb43 := dT hb43; refine W.condT rfl rfl<|W.region rfl<|hst.y rfl (Y.moveI rfl)<|hst.y rfl (Y.moveI rfl)<|hst.y rfl (Y.assignI rfl)<|hst.y rfl (Y.assignI rfl)<|Ops.done rfl<|W.region rfl<|hst.y rfl (Y.addI rfl rfl (by omega))<|hst.y rfl (Y.moveI rfl)<|Ops.done rfl<|?_; exact ⟨(k + 1, (k : Int), (getV l[k] es).getD 0), ⟨rfl, rfl, rfl, trivial⟩, ⟨rfl, rfl, rfl, rfl, rfl, trivial⟩, ⟨⟨by omega, by show -1 ≤ (k : Int); omega, by show (k : Int) < _; omega⟩, hst⟩, by dsimp only at *; omega⟩
    · replace hb19 := dT hb19; refine W.condT rfl rfl<|W.skip rfl<|W.seq rfl<|W.block rfl<|W.seq rfl<|?_; have hk1 : k < l.length := by omega
      refine W.region rfl<|hst.y rfl (Y.indexAddr underlying28 sizeOf9 rfl rfl ((Rds.sl (hr.cons _) hst).ne (by simp [strC]; omega)) (by omega))<|?_; refine hst.y rfl (Y.loadSl isAgg9 rfl (hr.cons _) (strC_get hk1))<|hst.y rfl (Y.assignT rfl)<|Ops.done rfl<|?_; have hgv := getV_in hfit (by omega) l[k]; refine W.region rfl<|hst.y rfl (Y.moveV rfl)<|hst.y rfl (Y.moveT rfl)<|hst.y rfl (Y.lookupV keysS underlying311 zeroValue3 (z0 := 0) 0 rfl rfl (k := l[k]) rfl)<|hst.y rfl (Y.addI rfl rfl (by show _ ≤ (getV l[k] es).getD 0 + 1 ∧ (getV l[k] es).getD 0 + 1 ≤ _; omega))<|?_; refine Ops.ww rfl (X.mapUpd keysS underlying311 hst 0 rfl rfl (k := l[k]) rfl (v := (getV l[k] es).getD 0 + 1) rfl fun w5 hst => Ops.done rfl<|W.region rfl<|hst.y rfl (Y.addI rfl rfl (by omega))<|hst.y rfl (Y.moveI rfl)<|Ops.done rfl<|?_); exact ⟨(k + 1, _, _), ⟨rfl, trivial⟩, ⟨rfl, rfl, rfl, rfl, rfl, trivial⟩, ⟨⟨by omega, hfit.put l[k] _ (by omega) clock⟩, hst⟩, by dsimp only at *; omega⟩
end Go.Proofs.YtaanjifekgfemaaGreat.Cl
end
section
namespace Go.Proofs.YtaanjifekgfemaaGreat.Cl
open Tryz
open Go.RowKit Go.Proofs.YtaanjifekgfemaaGreat.K Go.Proofs.YtaanjifekgfemaaGreat.W
structure Un where
  who : Int
  bt : TypeId
  fb : Nat
  lb : Nat
def unC (u : Un) : List Value := [.int .i64 u.who, .iface u.bt (.pointer (some ⟨u.fb, 0, none⟩)), .pointer (some ⟨u.fb, 0, none⟩), .pointer (some ⟨u.lb, 0, none⟩)]
theorem unC_len (u : Un) : (unC u).length = 4 := rfl
theorem unC_one (u : Un) : ∀ v ∈ unC u, v.oneCell' = true := by
  intro v hv; simp only [unC, List.mem_cons, List.not_mem_nil, or_false] at hv; rcases hv with rfl | rfl | rfl | rfl <;> rfl
def wC (p : Par) (time : Int) (U V : Value) : List Value := parC p ++ [.int .i64 time, U, V]
def isU (who : Int) (u : Un) : Bool := decide (u.who = who)
def unitAt (us : List Un) (who : Int) (ub : Nat) : Option Addr := if idxI (isU who) us < 0 then none else some ⟨ub, (idxI (isU who) us).toNat * 4, none⟩
theorem idxI_range {α : Type} (p : α → Bool) (l : List α) : -1 ≤ idxI p l ∧ (idxI p l < l.length ∨ l = [] ∧ idxI p l = -1) := by
  unfold idxI; split
  · rename_i h; exact ⟨by omega, .inl (by omega)⟩
  · refine ⟨by omega, ?_⟩
    cases l with
    | nil => exact .inr ⟨rfl, rfl⟩
    | cons x l => exact .inl (by simp only [List.length_cons]; omega)
theorem idxI_lt {α : Type} {p : α → Bool} {l : List α} (h : ¬ idxI p l < 0) : idxI p l < l.length := by
  rcases (idxI_range p l).2 with h2 | h2
  · exact h2
  · omega
end Go.Proofs.YtaanjifekgfemaaGreat.Cl
end
section
namespace Go.Proofs.YtaanjifekgfemaaGreat.Cl
open Tryz
open Go.RowKit Go.Proofs.YtaanjifekgfemaaGreat.K Go.Proofs.YtaanjifekgfemaaGreat.W
attribute [local irreducible] bound clip adds sub neg mag mulp mul maxs
theorem fa86_1 : FA 86 1 12 := fun _ _ => by simp [Instr.fieldAt, Instr.sureAddr, go_sem]
theorem fa86_2 : FA 86 2 13 := fun _ _ => by simp [Instr.fieldAt, Instr.sureAddr, go_sem]
theorem fa96_0 : FA 96 0 0 := fun _ _ => by simp [Instr.fieldAt, Instr.sureAddr, go_sem]
theorem cf62 : CF 62 := fun _ _ => by simp [go_sem]
theorem cf63 : CF 63 := fun _ _ => by simp [go_sem]
theorem elt_at (b : Nat) (i : Int) (m : Nat) : elt (some ⟨b, 0, none⟩) i m = ⟨b, i.toNat * m, none⟩ := by
  unfold elt; show (⟨b, 0, none⟩ : Addr).add _ = _; rw [add_lit', Nat.zero_add]
theorem unit1_any (u : Un) (who : Int) (b : Nat) (w0 w : World) (F0 : List Nat) (L G : List Res) (hst : St w0 F0 w L G) (j : Nat) (hj : L[j]? = some (cellsR b [.int .i64 who] 3)) :
    Calls Tryz.prog 63 #[.agg (unC u).toArray, .pointer (some ⟨b, 0, none⟩)] w fun e w' => e = .returned (.bool (isU who u)) ∧ St w0 F0 w' L G := by
  refine W.func func63 rfl ntmps63 rfl<|W.sr rfl<|Ops.ww rfl (X.boxA hst rfl fun p2 w2 hst => hst.y rfl (Y.assignB rfl)<|Ops.ds rfl rfl<|hst.y rfl (Y.fieldAddr fa96_0 rfl)<|hst.y rfl (Y.load 0 isAgg3 rfl rfl rfl)<|hst.y rfl (Y.load (j + 1) isAgg3 rfl (by simpa using hj) rfl)<|?_); refine hst.yb rfl (Y.eql rfl rfl) (fun b7 hb7 => hst.y rfl (Y.assignB rfl)<|Ops.done rfl<|W.ret rfl<|⟨_, Rslt.one results63 rfl, ?_⟩); exact ⟨congrArg (fun b => Ending.returned (.bool b)) hb7, (hst.dr 1)⟩
theorem unit_any (wb : Nat) (p : Par) (time : Int) (ub : Nat) (us : List Un) (uc : Nat) (LA : Option Addr) (nl lc : Nat) (who : Int) (hul : us.length ≤ 1000000) (w0 w : World) (F0 : List Nat) (L G : List Res) (hst : St w0 F0 w (cellsR wb (wC p (time) (.slice (some ⟨ub, 0, none⟩) us.length uc) (.slice LA nl lc)) 86 :: L) G) (hr : Rds L G (.slice (some ⟨ub, 0, none⟩) us.length uc) us.length (flat unC us)) :
    Calls Tryz.prog 34 #[.pointer (some ⟨wb, 0, none⟩), .int .i64 who] w fun e w' => e = .returned (.pointer (unitAt us who ub)) ∧ St w0 F0 w' (cellsR wb (wC p (time) (.slice (some ⟨ub, 0, none⟩) us.length uc) (.slice LA nl lc)) 86 :: L) G := by
  replace hr := hr.cons (cellsR wb (wC p (time) (.slice (some ⟨ub, 0, none⟩) us.length uc) (.slice LA nl lc)) 86); refine W.func func34 rfl ntmps34 rfl<|W.sr rfl<|Ops.ww rfl (X.box1 hst (.int _ _) rfl rfl fun p3 w3 hst => hst.y rfl (Y.assignP rfl)<|Ops.done rfl<|W.seq rfl<|W.sr rfl<|hst.y rfl (Y.moveP rfl)<|hst.y rfl (Y.isNil underlying45 rfl rfl)<|Ops.done rfl<|W.condF rfl rfl<|W.skip rfl<|W.sr rfl<|hst.y rfl (Y.moveP rfl)<|hst.y rfl (Y.nilCheck rfl)<|hst.y rfl (Y.fieldAddr fa86_2 rfl)<|hst.y rfl (Y.load 1 isAgg84 rfl rfl rfl)<|hst.y rfl (Y.makeFunc rfl rfl)<|Ops.ww rfl (X.ret cf62 (indexFunc_unit unC unC_len (isU who) us (by omega) _ uc 63 [] [.pointer (some ⟨p3, 0, none⟩)] cf63 _ _ _ _ _ hst (hr.cons _) (fun x hx w hst => unit1_any x who _ _ _ _ _ _ hst 0 rfl)) rfl fun w13 hst => hst.y rfl (Y.assignI rfl)<|Ops.done rfl<|W.seq rfl<|W.sr rfl<|hst.y rfl (Y.moveI rfl)<|hst.yb rfl (Y.lss rfl rfl) (fun b15 hb15 => Ops.done rfl<|?_))); cases b15
  · replace hb15 := dF hb15; refine W.condF rfl rfl<|W.skip rfl<|W.sr rfl<|hst.y rfl (Y.moveP rfl)<|hst.y rfl (Y.nilCheck rfl)<|hst.y rfl (Y.fieldAddr fa86_2 rfl)<|hst.y rfl (Y.load 1 isAgg84 rfl rfl rfl)<|hst.y rfl (Y.moveI rfl)<|hst.y rfl (Y.indexAddr underlying84 sizeOf96 rfl rfl (by simp) (by have := idxI_lt hb15; have := (idxI_range (isU who) us).1; omega))<|?_; refine hst.y rfl (Y.assignP rfl)<|Ops.done rfl<|W.ret rfl<|⟨_, Rslt.one results34 rfl, ?_⟩; have hq : unitAt us who ub = some ⟨ub, (idxI (isU who) us).toNat * 4, none⟩ := if_neg hb15; exact ⟨by rw [hq]; exact congrArg (fun z => Ending.returned (.pointer (some z))) (elt_at ub (idxI (isU who) us) 4), (hst.dr 1)⟩
  · replace hb15 := dT hb15; refine W.condT rfl rfl<|W.sr rfl<|hst.y rfl (Y.assignP rfl)<|Ops.done rfl<|W.ret rfl<|⟨_, Rslt.one results34 rfl, ?_⟩; have hq : unitAt us who ub = none := if_pos hb15; exact ⟨by rw [hq]; rfl, (hst.dr 1)⟩
theorem wset_any (wb : Nat) (p : Par) (time : Int) (ub : Nat) (us : List Un) (uc : Nat) (LA : Option Addr) (nl lc : Nat) (t : Int) (w0 w : World) (F0 : List Nat) (L G : List Res) (hst : St w0 F0 w (cellsR wb (wC p (time) (.slice (some ⟨ub, 0, none⟩) us.length uc) (.slice LA nl lc)) 86 :: L) G) :
    Calls Tryz.prog 24 #[.pointer (some ⟨wb, 0, none⟩), .int .i64 t] w fun e w' => e = .returned (.tuple #[]) ∧ St w0 F0 w' (cellsR wb (wC p (clip t) (.slice (some ⟨ub, 0, none⟩) us.length uc) (.slice LA nl lc)) 86 :: L) G := by
  refine W.func func24 rfl ntmps24 rfl<|W.sr rfl<|hst.y rfl (Y.moveP rfl)<|hst.y rfl (Y.notNil underlying45 rfl rfl)<|Ops.done rfl<|W.condT rfl rfl<|W.region rfl<|hst.y rfl (Y.moveP rfl)<|hst.y rfl (Y.moveI rfl)<|Ops.ww rfl (X.ret cf38 (clip_any _ _ _ _ _ _ hst ) rfl fun w8 hst => hst.y rfl (Y.nilCheck rfl)<|hst.y rfl (Y.fieldAddr fa86_1 rfl)<|Ops.ww rfl (X.storeV hst 0 (.int _ _) sizeOf3 rfl rfl rfl rfl (lZ rfl) rfl rfl fun w1_5 hst => Ops.done rfl<|⟨_, Rslt.none results24, ?_⟩)); exact ⟨rfl, hst⟩
end Go.Proofs.YtaanjifekgfemaaGreat.Cl
end
section
namespace Go.Proofs.YtaanjifekgfemaaGreat.Cl
open Tryz
open Go.RowKit Go.Proofs.YtaanjifekgfemaaGreat.K Go.Proofs.YtaanjifekgfemaaGreat.W
theorem flat_set {α : Type} {c : α → List Value} {m : Nat} (hc : ∀ x, (c x).length = m) (l : List α) (i : Nat) (v : α) (h : i < l.length) : Go.Proofs.YtaanjifekgfemaaGreat.K.splice (flat c l) (i * m) (c v) = flat c (l.set i v) := by
  have e1 : l = l.take i ++ l[i] :: l.drop (i + 1) := by simp
  have e2 : l.set i v = l.take i ++ v :: l.drop (i + 1) := by rw [List.set_eq_take_append_cons_drop, if_pos h]
  have hl : (flat c (l.take i)).length = i * m := by rw [flat_length hc, List.length_take, Nat.min_eq_left (by omega)]
  rw [e2]
  conv => lhs; rw [e1]
  have f1 : flat c (l.take i ++ l[i] :: l.drop (i + 1)) = flat c (l.take i) ++ (c l[i] ++ flat c (l.drop (i + 1))) := by unfold flat; rw [List.flatMap_append, List.flatMap_cons]
  have f2 : flat c (l.take i ++ v :: l.drop (i + 1)) = flat c (l.take i) ++ (c v ++ flat c (l.drop (i + 1))) := by simp [flat]
  rw [f1, f2]; unfold Go.Proofs.YtaanjifekgfemaaGreat.K.splice; rw [List.take_append_of_le_length (by omega), List.take_of_length_le (by omega)]; rw [← hl, List.drop_append, List.drop_of_length_le (by omega), Nat.add_sub_cancel_left, List.nil_append, hc v]; rw [show m = (c l[i]).length from (hc _).symm, List.drop_append, List.drop_length, Nat.sub_self, List.drop_zero]; simp
theorem flat_take {α : Type} {c : α → List Value} {m : Nat} (hc : ∀ x, (c x).length = m) (l : List α) (k : Nat) : (flat c l).take (k * m) = flat c (l.take k) := by
  induction l generalizing k with
  | nil => simp [flat]
  | cons x l ih =>
    cases k with
    | zero => simp [flat]
    | succ k =>
      have h1 : flat c (x :: l) = c x ++ flat c l := by simp [flat]
      have h2 : flat c ((x :: l).take (k + 1)) = c x ++ flat c (l.take k) := by simp [flat]
      rw [h1, h2, ← ih k, List.take_append, hc x]; rw [List.take_of_length_le (by rw [hc, Nat.add_mul]; omega), show (k + 1) * m - m = k * m by rw [Nat.add_mul]; omega]
structure DelS {α : Type} (p : α → Bool) (l xs : List α) (i j : Nat) : Prop where
  len : xs.length = l.length
  hj : j ≤ l.length
  hi : i = ((l.take j).filter fun x => !p x).length
  front : xs.take i = (l.take j).filter fun x => !p x
  back : xs.drop j = l.drop j
theorem DelS.le {α : Type} {p : α → Bool} {l xs : List α} {i j : Nat} (h : DelS p l xs i j) : i ≤ j := by
  have h1 := List.length_filter_le (fun x => !p x) (l.take j); rw [List.length_take] at h1; have := h.hi; omega
theorem DelS.get {α : Type} {p : α → Bool} {l xs : List α} {i j : Nat} (h : DelS p l xs i j) (hj : j < l.length) : ∃ hx : j < xs.length, xs[j] = l[j] := by
  have hx : j < xs.length := by rw [h.len]; exact hj
  refine ⟨hx, ?_⟩; have := congrArg (fun q => q[0]?) h.back; simpa [hx, hj] using this
theorem DelS.skip {α : Type} {p : α → Bool} {l xs : List α} {i j : Nat} (h : DelS p l xs i j) (hj : j < l.length) (hp : p l[j] = true) : DelS p l xs i (j + 1) := by
  have e : (l.take (j + 1)).filter (fun x => !p x) = (l.take j).filter fun x => !p x := by
    rw [List.take_succ_eq_append_getElem hj, List.filter_append]; simp [hp]
  exact ⟨h.len, hj, by rw [e]; exact h.hi, by rw [e]; exact h.front, by
    have := congrArg (List.drop 1) h.back
    simpa [List.drop_drop, Nat.add_comm] using this⟩
theorem DelS.keep {α : Type} {p : α → Bool} {l xs : List α} {i j : Nat} (h : DelS p l xs i j) (hj : j < l.length) (hp : p l[j] = false) : DelS p l (xs.set i l[j]) (i + 1) (j + 1) := by
  have hle := h.le
  have e : (l.take (j + 1)).filter (fun x => !p x) = ((l.take j).filter fun x => !p x) ++ [l[j]] := by
    rw [List.take_succ_eq_append_getElem hj, List.filter_append]; simp [hp]
  have hix : i < xs.length := by rw [h.len]; omega
  refine ⟨by simpa using h.len, hj, by rw [e]; simp [h.hi], ?_, ?_⟩
  · rw [e, ← h.front, List.take_succ_eq_append_getElem (by simpa using hix), List.getElem_set_self]
    congr 1
    rw [List.take_set]; exact List.set_eq_of_length_le (by rw [List.length_take]; omega)
  · rw [List.drop_set_of_lt (by omega)]; have := congrArg (List.drop 1) h.back; simpa [List.drop_drop, Nat.add_comm] using this
theorem idxI_del {α : Type} {p : α → Bool} {l : List α} {i : Nat} (h : idxI p l = (i : Int)) : i < l.length ∧ DelS p l l i (i + 1) := by
  unfold idxI at h; split at h
  · rename_i hlt; have hi : l.findIdx p = i := by omega
    subst hi
    have h0 : ∀ x ∈ l.take (l.findIdx p), p x = false := by
      intro x hx; obtain ⟨j, hj, rfl⟩ := List.getElem_of_mem hx; rw [List.length_take] at hj; rw [List.getElem_take]; have := List.not_of_lt_findIdx (xs := l) (p := p) (i := j) (by omega); simpa using this
    have hp := List.findIdx_getElem (w := hlt)
    have e : (l.take (l.findIdx p + 1)).filter (fun x => !p x) = l.take (l.findIdx p) := by
      rw [List.take_succ_eq_append_getElem hlt, List.filter_append, List.filter_eq_self.2 (fun x hx => by simp [h0 x hx])]; simp [hp]
    exact ⟨hlt, rfl, hlt, by rw [e, List.length_take]; omega, by rw [e], rfl⟩
  · omega
theorem idxI_none {α : Type} {p : α → Bool} {l : List α} (h : idxI p l = -1) : (l.filter fun x => !p x) = l := by
  unfold idxI at h; split at h
  · omega
  · rename_i hlt; rw [List.filter_eq_self]; intro x hx; have := List.findIdx_eq_length.1 (Nat.le_antisymm List.findIdx_le_length (Nat.le_of_not_lt hlt)) x hx; simpa using this
theorem DelS.fin {α : Type} {p : α → Bool} {l xs : List α} {i j : Nat} (h : DelS p l xs i j) (hj : l.length ≤ j) : xs.take i = (l.filter fun x => !p x) ∧ i = (l.filter fun x => !p x).length ∧ i ≤ l.length := by
  have e : l.take j = l := List.take_of_length_le hj; have h1 := h.front; have h2 := h.hi; rw [e] at h1 h2; exact ⟨h1, h2, by have := List.length_filter_le (fun x => !p x) l; omega⟩
def joins (us : List Un) (ub : Nat) (l : List (Int × Int)) (y : Int × Int) : Prop := y.1 ≠ y.2 ∧ unitAt us y.1 ub ≠ none ∧ unitAt us y.2 ub ≠ none ∧ y ∉ l
instance (us : List Un) (ub : Nat) (l : List (Int × Int)) (y : Int × Int) : Decidable (joins us ub l y) := by unfold joins; infer_instance
def joinL (us : List Un) (ub : Nat) (l : List (Int × Int)) (y : Int × Int) : List (Int × Int) := if joins us ub l y then l ++ [y] else l
theorem Y.notNilD {P : Program} {S : World → Prop} {ρ : Env} {ty t t' : TypeId} {x y : Operand} {p : Option Addr} {e : TypeId} (ht : P.underlying t = some (.pointer e)) (hx : ev ρ x = .pointer p) (hy : ev ρ y = .pointer none) : Y P S ρ (.binOp .neq t x y t') ty (.bool (decide (p ≠ none))) :=
  Y.cast (Y.notNil ht hx hy) (by cases p <;> simp)
end Go.Proofs.YtaanjifekgfemaaGreat.Cl
end
section
namespace Go.Proofs.YtaanjifekgfemaaGreat.Cl
open Tryz
open Go.RowKit Go.Proofs.YtaanjifekgfemaaGreat.K Go.Proofs.YtaanjifekgfemaaGreat.W
attribute [local irreducible] bound clip adds sub neg mag mulp mul maxs
theorem cf78 : CF 78 := fun _ _ => by simp [go_sem]
theorem delete_any (p : Int × Int → Bool) (l : List (Int × Int)) (hl : l.length ≤ 1000000) (b cap : Nat) (f : FuncId) (fs cs : List Value) (hfc : ∀ args w, (callFunc f args).run Tryz.prog w = .ok (.enter f args) w) (w0 w : World) (F0 : List Nat) (L G : List Res) (hst : St w0 F0 w (rowR (.slice (some ⟨b, 0, none⟩) l.length cap) 77 2 l.length (flat pairC (l)) :: L) G)
    (hf : ∀ x ∈ l, ∀ w L', (∃ L1, L' = L1 ++ L) → St w0 F0 w L' G → Calls Tryz.prog f (fs ++ [Value.agg (pairC x).toArray] ++ cs).toArray w fun e w' => e = .returned (.bool (p x)) ∧ St w0 F0 w' L' G) :
    Calls Tryz.prog 55 #[.slice (some ⟨b, 0, none⟩) l.length cap, .func (.func f) fs.toArray cs.toArray] w fun e w' => e = .returned (.slice (some ⟨b, 0, none⟩) (l.filter fun x => !p x).length cap) ∧ St w0 F0 w' (rowR (.slice (some ⟨b, 0, none⟩) (l.filter fun x => !p x).length cap) 77 2 (l.filter fun x => !p x).length (flat pairC ((l.filter fun x => !p x))) :: L) G := by
  have hcap : l.length ≤ cap := by
    obtain ⟨A', c', h, h2⟩ := rowR_shape (hst.res _ (.head _)); injection h with _ _ h; omega
  refine W.func func55 rfl ntmps55 rfl<|W.sr rfl<|hst.y rfl (Y.assignS rfl)<|Ops.ds rfl rfl<|hst.y rfl (Y.moveS rfl)<|hst.y rfl (Y.moveV rfl)<|Ops.ww rfl (X.ret cf78 (indexFunc_Way pairC pairC_len p l (by omega) _ cap f fs cs hfc _ _ _ _ _ hst (Rds.rowL 0 rfl) (fun x hx w hst => hf x hx w _ ⟨[_], rfl⟩ hst)) rfl fun w10 hst => hst.y rfl (Y.assignI rfl)<|Ops.done rfl<|W.seq rfl<|W.sr rfl<|hst.y rfl (Y.moveI rfl)<|hst.yb rfl (Y.eql rfl rfl) (fun b12 hb12 => Ops.done rfl<|?_)); cases b12
  · replace hb12 := dF hb12; refine W.condF rfl rfl<|W.skip rfl<|W.seq rfl<|W.seq rfl<|?_; have hir := idxI_range p l; generalize hq : idxI p l = q at *; obtain ⟨i0, rfl⟩ : ∃ n : Nat, q = (n : Int) := ⟨q.toNat, by omega⟩; have hdl := idxI_del hq; refine W.region rfl<|hst.y rfl (Y.moveI rfl)<|hst.y rfl (Y.addI rfl rfl (by omega))<|hst.y rfl (Y.assignI rfl)<|Ops.done rfl<|W.block rfl<|?_; refine W.loop (γ := List (Int × Int) × Nat × Nat) [(0, .slice _ _ _), (1, _)] (fun x => [(5, .int .i64 (x.2.1 : Int)), (6, .int .i64 (x.2.2 : Int))]) (fun x w => DelS p l x.1 x.2.1 x.2.2 ∧ St w0 F0 w (rowR (.slice (some ⟨b, 0, none⟩) l.length cap) 77 2 l.length (flat pairC (x.1)) :: L) G) (fun x => l.length - x.2.2) ((l, i0, i0 + 1)) rfl ⟨rfl, rfl, trivial⟩ ?_ ?_ ?_
    · exact ⟨rfl, rfl, trivial⟩
    · exact ⟨hdl.2, hst⟩
    · clear hst; rintro ⟨xs, i2, j2⟩ j w5 ⟨hd, hst⟩; dsimp only at hd; have hqi : (xs, i2, j2).snd.fst = i2 := rfl; have hqj : (xs, i2, j2).snd.snd = j2 := rfl; refine W.seq rfl<|W.sr rfl<|hst.y rfl (Y.moveI rfl)<|hst.y rfl (Y.moveS rfl)<|hst.y rfl (Y.lenS underlying25 rfl)<|hst.yb rfl (Y.lss rfl rfl) (fun b19 hb19 => Ops.done rfl<|?_); cases b19
      · replace hb19 := dF hb19; refine W.condF rfl rfl<|W.exit rfl<|W.seq rfl<|?_; have hfin := hd.fin (by omega); refine W.region rfl<|hst.y rfl (Y.moveS rfl)<|hst.y rfl (Y.moveI rfl)<|hst.y rfl (Y.sliceLo underlying25 sizeOf77 rfl rfl rfl (by omega))<|Ops.ww rfl (X.clearRow hst 0 underlying25 zeroValue77 (zs := [.int .i64 0, .int .i64 0]) rfl (by simp [Value.oneCell']) (size := 2) (k := i2) rfl rfl rfl (by omega) fun w11 ys hy1 hy2 hst => ?_); refine Ops.ds rfl rfl<|hst.y rfl (Y.moveS rfl)<|hst.y rfl (Y.moveI rfl)<|hst.y rfl (Y.sliceHi underlying25 sizeOf77 rfl rfl rfl (by omega))<|hst.y rfl (Y.assignS rfl)<|Ops.done rfl<|W.ret rfl<|⟨_, Rslt.one results55 rfl, ?_⟩; have hy3 : ys.take (i2 * 2) = (flat pairC xs).take (i2 * 2) := hy2; have hst2 := hst.rowTake (k := i2) (by omega); rw [hy3, flat_take pairC_len, hfin.1, hfin.2.1] at hst2; exact ⟨congrArg (fun z => Ending.returned (.slice (some ⟨b, 0, none⟩) z cap)) hfin.2.1, hst2⟩
      · replace hb19 := dT hb19; refine W.condT rfl rfl<|W.skip rfl<|W.seq rfl<|W.block rfl<|W.seq rfl<|?_; have hj1 : j2 < l.length := by omega
        obtain ⟨hx2, he2⟩ := hd.get hj1; have hile := hd.le; refine W.region rfl<|hst.y rfl (Y.moveS rfl)<|hst.y rfl (Y.moveI rfl)<|hst.y rfl (Y.indexAddr underlying25 sizeOf77 rfl rfl (by simp) (by omega))<|?_; refine hst.y rfl (Y.loadSlA isAgg77 sizeOf77 rfl (Rds.rowL 0 rfl) (flat_atI pairC_len xs j2 hx2) (pairC_len _))<|Ops.ww rfl (X.allocA hst zeroValue77 fun p7 w7 hst => Ops.ww rfl (X.storeS hst 0 sizeOf77 rfl rfl rfl rfl rfl (lZ rfl) rfl rfl fun w7_5 hst => Ops.ds rfl rfl<|hst.y rfl (Y.moveV rfl)<|hst.y rfl (Y.loadA 0 isAgg77 sizeOf77 rfl rfl rfl rfl)<|Ops.ww rfl (X.retVB hfc rfl (hf xs[j2] (by rw [he2]; exact List.getElem_mem hj1) _ _ ⟨[_, _], rfl⟩ hst) rfl fun b28 w28 hb28 hst => ?_))); cases b28
        · replace hb28 := dF hb28; refine hst.y rfl (Y.not rfl)<|Ops.done rfl<|W.condT rfl rfl<|W.sr rfl<|hst.y rfl (Y.moveS rfl)<|hst.y rfl (Y.moveI rfl)<|hst.y rfl (Y.loadA 0 isAgg77 sizeOf77 rfl rfl rfl rfl)<|hst.y rfl (Y.indexAddr underlying25 sizeOf77 rfl rfl (by simp) (by omega))<|?_; refine Ops.ww rfl (X.storeRow hst 1 sizeOf77 (b := b) (i := i2 * 2) (by exact congrArg (fun a => Value.pointer (some a)) (elt_at b (i2 : Int) 2)) rfl rfl rfl (fun v hv => by have hv : v ∈ pairC xs[j2] := hv; simp only [pairC, List.mem_cons, List.not_mem_nil, or_false] at hv; rcases hv with rfl | rfl <;> rfl) (by omega) fun w9 hst => ?_); refine Ops.done rfl<|W.region rfl<|hst.y rfl (Y.moveI rfl)<|hst.y rfl (Y.addI rfl rfl (by omega))<|hst.y rfl (Y.assignI rfl)<|Ops.done rfl<|W.region rfl<|hst.y rfl (Y.moveI rfl)<|hst.y rfl (Y.addI rfl rfl (by omega))<|hst.y rfl (Y.assignI rfl)<|Ops.done rfl<|?_; have hk := hd.keep hj1 (by rw [← he2]; simpa using hb28); have hset := flat_set pairC_len xs i2 xs[j2] (by rw [hd.len]; omega); have hst2 := (hst.dr 1); refine ⟨(xs.set i2 l[j2], i2 + 1, j2 + 1), ⟨rfl, rfl, trivial⟩, ⟨rfl, rfl, trivial⟩, ⟨hk, ?_⟩, by dsimp only at *; omega⟩; rw [← he2, ← hset]; exact hst2
        · replace hb28 := dT hb28; refine hst.y rfl (Y.not rfl)<|Ops.done rfl<|W.condF rfl rfl<|W.skip rfl<|W.region rfl<|hst.y rfl (Y.moveI rfl)<|hst.y rfl (Y.addI rfl rfl (by omega))<|hst.y rfl (Y.assignI rfl)<|Ops.done rfl<|?_; exact ⟨(xs, i2, j2 + 1), ⟨rfl, rfl, trivial⟩, ⟨rfl, rfl, trivial⟩, ⟨hd.skip hj1 (by rw [← he2]; exact hb28), (hst.dr 1)⟩, by dsimp only at *; omega⟩
  · replace hb12 := dT hb12; refine W.condT rfl rfl<|W.sr rfl<|hst.y rfl (Y.moveS rfl)<|hst.y rfl (Y.assignS rfl)<|Ops.done rfl<|W.ret rfl<|⟨_, Rslt.one results55 rfl, ?_⟩; have hn := idxI_none hb12; rw [hn]; exact ⟨rfl, hst⟩
theorem bd77_0_1 {S ρ ty} {parts : Array (Nat × Operand)} {x0 : Int} {x1 : Int} (hp : (parts.toList.map fun x => (x.1, ev ρ x.2)) = [(0, Value.int .i64 x0), (1, Value.int .i64 x1)]) : Y Tryz.prog S ρ (.build 77 parts) ty (.agg #[Value.int .i64 x0, Value.int .i64 x1]) :=
  Y.build hp fun w => by simp [Instr.build, go_sem]
theorem fa77_0 : FA 77 0 0 := fun _ _ => by simp [Instr.fieldAt, Instr.sureAddr, go_sem]
theorem fa77_1 : FA 77 1 1 := fun _ _ => by simp [Instr.fieldAt, Instr.sureAddr, go_sem]
theorem fa86_3 : FA 86 3 14 := fun _ _ => by simp [Instr.fieldAt, Instr.sureAddr, go_sem]
theorem cf34 : CF 34 := fun _ _ => by simp [go_sem]
theorem cf55 : CF 55 := fun _ _ => by simp [go_sem]
theorem cf57 : CF 57 := fun _ _ => by simp [go_sem]
theorem cf56 : CF 56 := fun _ _ => by simp [go_sem]
theorem cf29 : CF 29 := fun _ _ => by simp [go_sem]
theorem cf30 : CF 30 := fun _ _ => by simp [go_sem]
theorem info77 : (Tryz.prog.info? 77).map (fun i => (i.zero, i.size, i.bytes)) = some (some (.agg #[Value.int .i64 0, Value.int .i64 0]), 2, 16) := by kernel_rfl
theorem cut1_any (x y : Int × Int) (b : Nat) (w0 w : World) (F0 : List Nat) (L G : List Res) (hst : St w0 F0 w L G) (hm : cellsR b (pairC y) 77 ∈ L) :
    Calls Tryz.prog 56 #[.agg (pairC x).toArray, .pointer (some ⟨b, 0, none⟩)] w fun e w' => e = .returned (.bool (decide (x = y))) ∧ St w0 F0 w' L G := by
  obtain ⟨j, hj⟩ := List.getElem?_of_mem hm; refine W.func func56 rfl ntmps56 rfl<|W.sr rfl<|Ops.ww rfl (X.boxA hst rfl fun p2 w2 hst => hst.y rfl (Y.assignB rfl)<|Ops.ds rfl rfl<|hst.y rfl (Y.loadA 0 isAgg77 sizeOf77 rfl rfl rfl rfl)<|hst.y rfl (Y.loadA (j + 1) isAgg77 sizeOf77 rfl (by simpa using hj) rfl rfl)<|?_); refine hst.yb rfl (Y.eq2 eqg_way eq2_way rfl rfl) (fun b6 hb6 => hst.y rfl (Y.assignB rfl)<|Ops.done rfl<|W.ret rfl<|⟨_, Rslt.one results56 rfl, ?_⟩); exact ⟨congrArg (fun b => Ending.returned (.bool b)) (hb6.trans (decide_eq_decide.2 ⟨fun h => Prod.ext h.1 h.2, fun h => by rw [h]; exact ⟨rfl, rfl⟩⟩)), (hst.dr 1)⟩
theorem delete_nil (f : FuncId) (fs cs : List Value) (hfc : ∀ args w, (callFunc f args).run Tryz.prog w = .ok (.enter f args) w) (w0 w : World) (F0 : List Nat) (L G : List Res) (hst : St w0 F0 w L G) (hrn : Rds L G (.slice none 0 0) 0 []) :
    Calls Tryz.prog 55 #[.slice none 0 0, .func (.func f) fs.toArray cs.toArray] w fun e w' => e = .returned (.slice none 0 0) ∧ St w0 F0 w' L G := by
  refine W.func func55 rfl ntmps55 rfl<|W.sr rfl<|hst.y rfl (Y.assignS rfl)<|Ops.ds rfl rfl<|hst.y rfl (Y.moveS rfl)<|hst.y rfl (Y.moveV rfl)<|Ops.ww rfl (X.ret cf78 (indexFunc_Way pairC pairC_len (fun _ => true) [] (by simp) none 0 f fs cs hfc _ _ _ _ _ hst hrn (fun x hx => by cases hx)) rfl fun w10 hst => ?_); refine hst.y rfl (Y.assignI rfl)<|Ops.done rfl<|W.seq rfl<|W.sr rfl<|hst.y rfl (Y.moveI rfl)<|hst.yb rfl (Y.eql rfl rfl) (fun b12 hb12 => Ops.done rfl<|?_); cases b12
  · replace hb12 := dF hb12; exact absurd rfl hb12
  · replace hb12 := dT hb12; refine W.condT rfl rfl<|W.sr rfl<|hst.y rfl (Y.moveS rfl)<|hst.y rfl (Y.assignS rfl)<|Ops.done rfl<|W.ret rfl<|⟨_, Rslt.one results55 rfl, ?_⟩; exact ⟨rfl, hst⟩
theorem delete_link (y : Int × Int) (l : List (Int × Int)) (hl : l.length ≤ 1000000) (A : Option Addr) (c b : Nat) (w0 w : World) (F0 : List Nat) (L G : List Res) (hst : St w0 F0 w (rowR (.slice A (l).length c) 77 2 (l).length (flat pairC (l)) :: cellsR b (pairC y) 77 :: L) G) :
    Calls Tryz.prog 55 #[.slice A l.length c, .func (.func 56) #[] #[.pointer (some ⟨b, 0, none⟩)]] w fun e w' => e = .returned (.slice A (l.filter fun x => !decide (x = y)).length c) ∧ St w0 F0 w' (rowR (.slice A ((l.filter fun x => !decide (x = y))).length c) 77 2 ((l.filter fun x => !decide (x = y))).length (flat pairC ((l.filter fun x => !decide (x = y)))) :: cellsR b (pairC y) 77 :: L) G := by
  have hrow : w.ownsRow 0 77 2 (.slice A l.length c) l.length (flat pairC l) := hst.res _ (.head _); rcases hrow.2 with ⟨h1, h2⟩ | ⟨g, cap, cur, h1, _⟩
  · obtain rfl : l = [] := List.eq_nil_of_length_eq_zero h2; injection h1 with h1 h3 h4; subst h1; subst h4; exact delete_nil 56 [] [.pointer (some ⟨b, 0, none⟩)] cf56 _ _ _ _ _ hst (Rds.rowL 0 rfl)
  · injection h1 with h1 h3 h4; subst h1; subst h4; refine delete_any (fun x => decide (x = y)) l hl g c 56 [] [.pointer (some ⟨b, 0, none⟩)] cf56 _ _ _ _ _ hst ?_; rintro x hx w L' ⟨L1, rfl⟩ hst; exact cut1_any x y b _ _ _ _ _ hst (List.mem_append.2 (.inr (.head _)))
theorem cut_any (wb : Nat) (p : Par) (time : Int) (ub : Nat) (us : List Un) (uc : Nat) (l : List (Int × Int)) (hl : l.length ≤ 1000000) (LA : Option Addr) (lc : Nat) (y : Int × Int) (w0 w : World) (F0 : List Nat) (L G : List Res) (hst : St w0 F0 w (cellsR wb (wC p time (.slice (some ⟨ub, 0, none⟩) us.length uc) (.slice LA (l.length) lc)) 86 :: rowR (.slice LA (l).length lc) 77 2 (l).length (flat pairC (l)) :: L) G) :
    Calls Tryz.prog 29 #[.pointer (some ⟨wb, 0, none⟩), .agg (pairC y).toArray] w fun e w' => e = .returned (.tuple #[]) ∧ St w0 F0 w' (cellsR wb (wC p time (.slice (some ⟨ub, 0, none⟩) us.length uc) (.slice LA ((l.filter fun x => !decide (x = y)).length) lc)) 86 :: rowR (.slice LA ((l.filter fun x => !decide (x = y))).length lc) 77 2 ((l.filter fun x => !decide (x = y))).length (flat pairC ((l.filter fun x => !decide (x = y)))) :: L) G := by
  refine W.func func29 rfl ntmps29 rfl<|W.sr rfl<|Ops.ww rfl (X.boxA hst rfl fun p3 w3 hst => Ops.done rfl<|W.region rfl<|hst.y rfl (Y.moveP rfl)<|hst.y rfl (Y.moveP rfl)<|hst.y rfl (Y.nilCheck rfl)<|hst.y rfl (Y.fieldAddr fa86_3 rfl)<|hst.y rfl (Y.load 1 isAgg25 rfl rfl rfl)<|hst.y rfl (Y.makeFunc rfl rfl)<|Ops.ww rfl (X.call cf55 rfl<|?_)); refine use_call (delete_link y l hl LA lc p3 _ _ _ _ _ (hst.up_2)) rfl ?_; clear hst; rintro e w10 ⟨rfl, hst⟩; replace hst := hst.dn2; refine ⟨_, rfl, ?_⟩; refine hst.y rfl (Y.nilCheck rfl)<|hst.y rfl (Y.fieldAddr fa86_3 rfl)<|Ops.ww rfl (X.storeV hst 1 (.slice _ _ _) sizeOf25 rfl rfl rfl rfl (lZ rfl) rfl rfl fun w1_9 hst => Ops.done rfl<|⟨_, Rslt.none results29, ?_⟩); exact ⟨rfl, (hst.dr 1)⟩
set_option maxHeartbeats 1000000 in
theorem join_any (wb : Nat) (p : Par) (time : Int) (ub : Nat) (us : List Un) (uc : Nat) (l : List (Int × Int)) (hl : l.length ≤ 1000000) (LA : Option Addr) (lc : Nat) (y : Int × Int) (hul : us.length ≤ 1000000) (w0 w : World) (F0 : List Nat) (L G : List Res) (hst : St w0 F0 w (cellsR wb (wC p time (.slice (some ⟨ub, 0, none⟩) us.length uc) (.slice LA (l.length) lc)) 86 :: rowR (.slice LA (l).length lc) 77 2 (l).length (flat pairC (l)) :: L) G) (hru : Rds L G (.slice (some ⟨ub, 0, none⟩) us.length uc) us.length (flat unC us)) :
    Calls Tryz.prog 30 #[.pointer (some ⟨wb, 0, none⟩), .agg (pairC y).toArray] w fun e w' => ∃ A' c', e = .returned (.tuple #[]) ∧ St w0 F0 w' (cellsR wb (wC p time (.slice (some ⟨ub, 0, none⟩) us.length uc) (.slice A' ((joinL us ub l y).length) c')) 86 :: rowR (.slice A' (joinL us ub l y).length c') 77 2 (joinL us ub l y).length (flat pairC (joinL us ub l y)) :: L) G := by
  refine W.func func30 rfl ntmps30 rfl<|W.sr rfl<|Ops.ww rfl (X.boxA hst rfl fun p3 w3 hst => Ops.done rfl<|W.seq rfl<|?_); refine W.cut [(0, .pointer _), (3, .pointer _)] (fun x : Bool => [(31, .bool x)]) (fun x w => x = decide (joins us ub l y) ∧ St w0 F0 w (cellsR p3 (pairC y) 77 :: cellsR wb (wC p time (.slice (some ⟨ub, 0, none⟩) us.length uc) (.slice LA (l.length) lc)) 86 :: rowR (.slice LA (l).length lc) 77 2 (l).length (flat pairC (l)) :: L) G) ⟨rfl, rfl, trivial⟩ ?_ ?_
  rotate_left
  · clear hst; rintro b31 j w31 ⟨hb31, hst⟩; cases b31
    · replace hb31 := dF hb31; refine W.condF rfl rfl<|W.skip rfl<|⟨_, Rslt.none results30, ?_⟩; have hq : joinL us ub l y = l := if_neg hb31; rw [hq]; exact ⟨LA, lc, rfl, (hst.dr 1)⟩
    · replace hb31 := dT hb31; refine W.condT rfl rfl<|W.drawn rfl (by kernel_rfl) (Ctx _ _ (_) (_)) [7, 8, 9, 10] (.op 0 2 (.op 1 0 (.op 2 0 (.op 3 0 (.op 4 0 (.op 5 0 (.op 6 1 (.op 7 1 (.op 8 1 (.op 9 1 (.op 10 1 .nil))))))))))) rfl (by kernel_rfl) hst.drew.ctx<|?_; replace hst := hst.drew; generalize World.drew _ = wd at hst ⊢; refine Drw.ya rfl rfl rfl hst.ctx (Y.moveP rfl)<|hst.z rfl (Y.moveP rfl)<|hst.z rfl (Y.nilCheck rfl)<|hst.z rfl (Y.fieldAddr fa86_3 rfl)<|hst.z rfl (Y.load 1 isAgg25 rfl rfl rfl)<|hst.z rfl (Y.loadA 0 isAgg77 sizeOf77 rfl rfl rfl rfl)<|Drw.ww rfl (X.lit1 hst underlying25 sizeOf77 zeroValue77 rfl rfl rfl fun p38 w38 hst => ⟨(hst.cx 1), Drw.z rfl rfl rfl rfl (X.app hst 3 0 underlying25 info77 rfl rfl rfl rfl rfl rfl rfl rfl (by unfold maxLen; omega) (by omega) fun A39 c39 w39 hst => ?_)⟩); refine Drw.zy rfl rfl rfl rfl hst.ctx (Y.nilCheck rfl)<|Drw.zy rfl rfl rfl rfl hst.ctx (Y.fieldAddr fa86_3 rfl)<|Drw.z rfl rfl rfl rfl (X.storeV hst 2 (.slice _ _ _) sizeOf25 rfl rfl rfl rfl (lZ rfl) rfl rfl fun w2_10 hst => Drw.done<|⟨_, Rslt.none results30, ?_⟩); have hq : joinL us ub l y = l ++ [y] := if_pos hb31; have e4 : (l ++ [y]).length = l.length + 1 := by simp
      have e5 : flat pairC (l ++ [y]) = flat pairC l ++ pairC y := by rw [flat_append]; simp [flat]
      rw [hq, e4, e5]; exact ⟨A39, c39, rfl, (hst.dr 2)⟩
  refine hst.dv [] (T0 [0,1,2,3,4,5,6,7,8] (.op 9 1 (T0 [10,11,12,13,14,15] (.op 16 1 (T0 [17,18,19,20,21,22,23,24] (.op 25 1 (T0 [26,27] .nil))))))) rfl (by kernel_rfl) rfl (by kernel_rfl) fun wd hst => ?_; refine hst.z rfl (Y.fieldAddr fa77_0 rfl)<|hst.z rfl (Y.load 0 isAgg3 rfl rfl rfl)<|hst.z rfl (Y.fieldAddr fa77_1 rfl)<|hst.z rfl (Y.load 0 isAgg3 rfl rfl rfl)<|Drw.yb rfl rfl rfl hst.ctx (Y.neq rfl rfl) (fun b8 hb8 => hst.z rfl (Y.moveB rfl)<|?_); cases b8
  · replace hb8 := dF hb8; refine Drw.no rfl rfl rfl hst.ctx<|Drw.no rfl rfl rfl hst.ctx<|Drw.no rfl rfl rfl hst.ctx<|Drw.noX rfl rfl rfl hst.ctx<|Drw.no rfl rfl rfl hst.ctx<|hst.z rfl (Y.pB rfl rfl)<|hst.z rfl (Y.moveB rfl)<|Drw.no rfl rfl rfl hst.ctx<|Drw.no rfl rfl rfl hst.ctx<|Drw.no rfl rfl rfl hst.ctx<|Drw.noX rfl rfl rfl hst.ctx<|Drw.no rfl rfl rfl hst.ctx<|hst.z rfl (Y.pB rfl rfl)<|hst.z rfl (Y.moveB rfl)<|Drw.no rfl rfl rfl hst.ctx<|Drw.no rfl rfl rfl hst.ctx<|Drw.no rfl rfl rfl hst.ctx<|Drw.no rfl rfl rfl hst.ctx<|Drw.no rfl rfl rfl hst.ctx<|Drw.noX rfl rfl rfl hst.ctx<|Drw.no rfl rfl rfl hst.ctx<|hst.z rfl (Y.pB rfl rfl)<|Drw.done<|?_; exact ⟨_, ⟨rfl, trivial⟩, ⟨rfl, rfl, trivial⟩, (decide_eq_false (fun h => hb8 h.1)).symm, hst⟩
  · replace hb8 := dT hb8; refine hst.z rfl (Y.moveP rfl)<|hst.z rfl (Y.fieldAddr fa77_0 rfl)<|hst.z rfl (Y.load 0 isAgg3 rfl rfl rfl)<|Drw.ww rfl (X.ret cf34 (dn1 (unit_any wb p time ub us uc LA l.length lc y.1 hul _ _ _ _ _ hst.up_1 ((hru.cons _).cons _))) rfl fun w13 hst => ⟨hst.ctx, Drw.yb rfl rfl rfl hst.ctx (Y.notNilD underlying91 rfl rfl) (fun b14 hb14 => hst.z rfl (Y.pB rfl rfl)<|hst.z rfl (Y.moveB rfl)<|?_)⟩); cases b14
    · replace hb14 := dF hb14; refine Drw.no rfl rfl rfl hst.ctx<|Drw.no rfl rfl rfl hst.ctx<|Drw.no rfl rfl rfl hst.ctx<|Drw.noX rfl rfl rfl hst.ctx<|Drw.no rfl rfl rfl hst.ctx<|hst.z rfl (Y.pB rfl rfl)<|hst.z rfl (Y.moveB rfl)<|Drw.no rfl rfl rfl hst.ctx<|Drw.no rfl rfl rfl hst.ctx<|Drw.no rfl rfl rfl hst.ctx<|Drw.no rfl rfl rfl hst.ctx<|Drw.no rfl rfl rfl hst.ctx<|Drw.noX rfl rfl rfl hst.ctx<|Drw.no rfl rfl rfl hst.ctx<|hst.z rfl (Y.pB rfl rfl)<|Drw.done<|?_; exact ⟨_, ⟨rfl, trivial⟩, ⟨rfl, rfl, trivial⟩, (decide_eq_false (fun h => hb14 h.2.1)).symm, hst⟩
    · replace hb14 := dT hb14; refine hst.z rfl (Y.moveP rfl)<|hst.z rfl (Y.fieldAddr fa77_1 rfl)<|hst.z rfl (Y.load 0 isAgg3 rfl rfl rfl)<|Drw.ww rfl (X.ret cf34 (dn1 (unit_any wb p time ub us uc LA l.length lc y.2 hul _ _ _ _ _ hst.up_1 ((hru.cons _).cons _))) rfl fun w20 hst => ⟨hst.ctx, Drw.yb rfl rfl rfl hst.ctx (Y.notNilD underlying91 rfl rfl) (fun b21 hb21 => hst.z rfl (Y.pB rfl rfl)<|hst.z rfl (Y.moveB rfl)<|?_)⟩); cases b21
      · replace hb21 := dF hb21; refine Drw.no rfl rfl rfl hst.ctx<|Drw.no rfl rfl rfl hst.ctx<|Drw.no rfl rfl rfl hst.ctx<|Drw.no rfl rfl rfl hst.ctx<|Drw.no rfl rfl rfl hst.ctx<|Drw.noX rfl rfl rfl hst.ctx<|Drw.no rfl rfl rfl hst.ctx<|hst.z rfl (Y.pB rfl rfl)<|Drw.done<|?_; exact ⟨_, ⟨rfl, trivial⟩, ⟨rfl, rfl, trivial⟩, (decide_eq_false (fun h => hb21 h.2.2.1)).symm, hst⟩
      · replace hb21 := dT hb21; refine hst.z rfl (Y.moveP rfl)<|hst.z rfl (Y.nilCheck rfl)<|hst.z rfl (Y.fieldAddr fa86_3 rfl)<|hst.z rfl (Y.load 1 isAgg25 rfl rfl rfl)<|hst.z rfl (Y.loadA 0 isAgg77 sizeOf77 rfl rfl rfl rfl)<|Drw.ww rfl (X.retB cf57 (contains_way l (by omega) LA lc y _ _ _ _ _ hst (Rds.rowL 2 rfl)) rfl fun b29 w29 hb29 hst => ⟨hst.ctx, ?_⟩); cases b29
        · replace hb29 := dF hb29; refine hst.z rfl (Y.not rfl)<|hst.z rfl (Y.pB rfl rfl)<|Drw.done<|?_; exact ⟨_, ⟨rfl, trivial⟩, ⟨rfl, rfl, trivial⟩, (decide_eq_true ⟨hb8, hb14, hb21, hb29⟩).symm, hst⟩
        · replace hb29 := dT hb29; refine hst.z rfl (Y.not rfl)<|hst.z rfl (Y.pB rfl rfl)<|Drw.done<|?_; exact ⟨_, ⟨rfl, trivial⟩, ⟨rfl, rfl, trivial⟩, (decide_eq_false (fun h => h.2.2.2 hb29)).symm, hst⟩
def inB (y : Int × Int) : Prop := 0 ≤ y.1 ∧ 0 ≤ y.2 ∧ y.1 < 32 ∧ y.2 < 32
instance (y : Int × Int) : Decidable (inB y) := by unfold inB; infer_instance
def bothE (eff : List (Int × Int) → Int × Int → List (Int × Int)) (l : List (Int × Int)) (y : Int × Int) : List (Int × Int) := if inB y then eff (eff l (16 + y.1, 16 + y.2)) (16 + y.2, 16 + y.1) else l
theorem both_any (wb : Nat) (p : Par) (time : Int) (ub : Nat) (us : List Un) (uc : Nat) (eff : List (Int × Int) → Int × Int → List (Int × Int)) (n : Nat) (heff : ∀ l y, (eff l y).length ≤ l.length + 1) (l : List (Int × Int)) (hl : l.length + 1 ≤ n) (LA : Option Addr) (lc : Nat) (y : Int × Int) (f : FuncId) (hfc : ∀ args w, (callFunc f args).run Tryz.prog w = .ok (.enter f args) w) (w0 w : World) (F0 : List Nat) (L G : List Res) (hst : St w0 F0 w (cellsR wb (wC p time (.slice (some ⟨ub, 0, none⟩) us.length uc) (.slice LA ((l).length) lc)) 86 :: rowR (.slice LA (l).length lc) 77 2 (l).length (flat pairC (l)) :: L) G)
    (hf : ∀ (l : List (Int × Int)), l.length ≤ n → ∀ LA lc (y : Int × Int) w L1, St w0 F0 w (cellsR wb (wC p time (.slice (some ⟨ub, 0, none⟩) us.length uc) (.slice LA (l.length) lc)) 86 :: rowR (.slice LA (l).length lc) 77 2 (l).length (flat pairC (l)) :: (L1 ++ L)) G → Calls Tryz.prog f #[.pointer (some ⟨wb, 0, none⟩), .agg (pairC y).toArray] w fun e w' => ∃ A' c', e = .returned (.tuple #[]) ∧ St w0 F0 w' (cellsR wb (wC p time (.slice (some ⟨ub, 0, none⟩) us.length uc) (.slice A' ((eff l y).length) c')) 86 :: rowR (.slice A' (eff l y).length c') 77 2 (eff l y).length (flat pairC (eff l y)) :: (L1 ++ L)) G) :
    Calls Tryz.prog 28 #[.pointer (some ⟨wb, 0, none⟩), .agg (pairC y).toArray, .func (.func f) #[] #[]] w fun e w' => ∃ A' c', e = .returned (.tuple #[]) ∧ St w0 F0 w' (cellsR wb (wC p time (.slice (some ⟨ub, 0, none⟩) us.length uc) (.slice A' ((bothE eff l y).length) c')) 86 :: rowR (.slice A' (bothE eff l y).length c') 77 2 (bothE eff l y).length (flat pairC (bothE eff l y)) :: L) G := by
  refine W.func func28 rfl ntmps28 rfl<|W.sr rfl<|Ops.ww rfl (X.boxA hst rfl fun p4 w4 hst => Ops.done rfl<|W.seq rfl<|?_); refine W.cut [(0, .pointer _), (2, _), (4, .pointer _)] (fun x : Int × Int => [(6, .int .i64 x.1), (7, .int .i64 x.2)]) (fun x w => (inB y → x = (16 + y.1, 16 + y.2)) ∧ St w0 F0 w (cellsR p4 (pairC y) 77 :: cellsR wb (wC p time (.slice (some ⟨ub, 0, none⟩) us.length uc) (.slice LA (l.length) lc)) 86 :: rowR (.slice LA (l).length lc) 77 2 (l).length (flat pairC (l)) :: L) G) ⟨rfl, rfl, rfl, trivial⟩ ?_ ?_
  rotate_left
  · clear hst; rintro ⟨a, b⟩ j w1 ⟨hab, hst⟩; refine W.sr rfl<|hst.y rfl (Y.fieldAddr fa77_0 rfl)<|hst.y rfl (Y.load 0 isAgg3 rfl rfl rfl)<|hst.yb rfl (Y.geq rfl rfl) (fun b16 hb16 => hst.y rfl (Y.moveB rfl)<|?_); cases b16
    · replace hb16 := dF hb16; refine Ops.nn rfl<|Ops.nn rfl<|Ops.nn rfl<|hst.y rfl (Y.pB rfl rfl)<|hst.y rfl (Y.moveB rfl)<|Ops.nn rfl<|Ops.nn rfl<|Ops.nn rfl<|hst.y rfl (Y.pB rfl rfl)<|hst.y rfl (Y.moveB rfl)<|Ops.nn rfl<|Ops.nn rfl<|Ops.nn rfl<|hst.y rfl (Y.pB rfl rfl)<|Ops.done rfl<|W.condF rfl rfl<|W.skip rfl<|⟨_, Rslt.none results28, ?_⟩; have hq : bothE eff l y = l := if_neg (by unfold inB; omega); exact ⟨LA, lc, rfl, by rw [hq]; exact (hst.dr 1)⟩
    · replace hb16 := dT hb16; refine hst.y rfl (Y.fieldAddr fa77_1 rfl)<|hst.y rfl (Y.load 0 isAgg3 rfl rfl rfl)<|hst.yb rfl (Y.geq rfl rfl) (fun b20 hb20 => hst.y rfl (Y.pB rfl rfl)<|hst.y rfl (Y.moveB rfl)<|?_); cases b20
      · replace hb20 := dF hb20; refine Ops.nn rfl<|Ops.nn rfl<|Ops.nn rfl<|hst.y rfl (Y.pB rfl rfl)<|hst.y rfl (Y.moveB rfl)<|Ops.nn rfl<|Ops.nn rfl<|Ops.nn rfl<|hst.y rfl (Y.pB rfl rfl)<|Ops.done rfl<|W.condF rfl rfl<|W.skip rfl<|⟨_, Rslt.none results28, ?_⟩; have hq : bothE eff l y = l := if_neg (by unfold inB; omega); exact ⟨LA, lc, rfl, by rw [hq]; exact (hst.dr 1)⟩
      · replace hb20 := dT hb20; refine hst.y rfl (Y.fieldAddr fa77_0 rfl)<|hst.y rfl (Y.load 0 isAgg3 rfl rfl rfl)<|hst.yb rfl (Y.lss rfl rfl) (fun b25 hb25 => hst.y rfl (Y.pB rfl rfl)<|hst.y rfl (Y.moveB rfl)<|?_); cases b25
        · replace hb25 := dF hb25; refine Ops.nn rfl<|Ops.nn rfl<|Ops.nn rfl<|hst.y rfl (Y.pB rfl rfl)<|Ops.done rfl<|W.condF rfl rfl<|W.skip rfl<|⟨_, Rslt.none results28, ?_⟩; have hq : bothE eff l y = l := if_neg (by unfold inB; omega); exact ⟨LA, lc, rfl, by rw [hq]; exact (hst.dr 1)⟩
        · replace hb25 := dT hb25; refine hst.y rfl (Y.fieldAddr fa77_1 rfl)<|hst.y rfl (Y.load 0 isAgg3 rfl rfl rfl)<|hst.yb rfl (Y.lss rfl rfl) (fun b30 hb30 => hst.y rfl (Y.pB rfl rfl)<|Ops.done rfl<|?_); cases b30
          · replace hb30 := dF hb30; refine W.condF rfl rfl<|W.skip rfl<|⟨_, Rslt.none results28, ?_⟩
            first
            | (have hq : bothE eff l y = l := if_neg (by unfold inB; omega)
               exact ⟨LA, lc, rfl, by rw [hq]; exact (hst.dr 1)⟩)
            | (have hq : bothE eff l y = eff (eff l (16 + y.1, 16 + y.2)) (16 + y.2, 16 + y.1) := if_pos hin
               exact ⟨A43, c43, rfl, by rw [hq]; exact (hst.dr 1)⟩)
          · replace hb30 := dT hb30; refine W.condT rfl rfl<|W.seq rfl<|?_; have hin : inB y := ⟨hb16, hb20, hb25, hb30⟩; obtain ⟨rfl, rfl⟩ := Prod.mk.inj (hab hin); have he1 := heff l (16 + y.1, 16 + y.2); refine W.region rfl<|hst.y rfl (Y.moveV rfl)<|hst.y rfl (Y.moveP rfl)<|hst.y rfl (Y.moveI rfl)<|hst.y rfl (Y.moveI rfl)<|hst.y rfl (bd77_0_1 rfl)<|Ops.ww rfl (X.callV hfc (fs := []) (cs := []) rfl rfl<|(hf (l) (by omega) LA lc (16 + y.1, 16 + y.2) _ [_] (hst.up_2.up_2)).mono<|?_); clear hst; rintro e w37 ⟨A37, c37, rfl, hst⟩; refine ⟨_, rfl, ?_⟩; replace hst := hst.dn2.dn2; refine Ops.done rfl<|W.region rfl<|hst.y rfl (Y.moveV rfl)<|hst.y rfl (Y.moveP rfl)<|hst.y rfl (Y.moveI rfl)<|hst.y rfl (Y.moveI rfl)<|hst.y rfl (bd77_0_1 rfl)<|Ops.ww rfl (X.callV hfc (fs := []) (cs := []) rfl rfl<|(hf (eff l (16 + y.1, 16 + y.2)) (by omega) A37 c37 (16 + y.2, 16 + y.1) _ [_] (hst.up_2.up_2)).mono<|?_); clear hst; rintro e w43 ⟨A43, c43, rfl, hst⟩; refine ⟨_, rfl, ?_⟩; replace hst := hst.dn2.dn2; refine Ops.done rfl<|⟨_, Rslt.none results28, ?_⟩
            first
            | (have hq : bothE eff l y = l := if_neg (by unfold inB; omega)
               exact ⟨LA, lc, rfl, by rw [hq]; exact (hst.dr 1)⟩)
            | (have hq : bothE eff l y = eff (eff l (16 + y.1, 16 + y.2)) (16 + y.2, 16 + y.1) := if_pos hin
               exact ⟨A43, c43, rfl, by rw [hq]; exact (hst.dr 1)⟩)
  refine hst.dv [] (T0 [0,1,2,3,4,5,6,7] .nil) rfl (by kernel_rfl) rfl (by kernel_rfl) fun wd hst => ?_; refine hst.z rfl (Y.fieldAddr fa77_0 rfl)<|hst.z rfl (Y.load 0 isAgg3 rfl rfl rfl)<|hst.z rfl (Y.add rfl rfl)<|hst.z rfl (Y.fieldAddr fa77_1 rfl)<|hst.z rfl (Y.load 0 isAgg3 rfl rfl rfl)<|hst.z rfl (Y.add rfl rfl)<|hst.z rfl (Y.assignI rfl)<|hst.z rfl (Y.assignI rfl)<|Drw.done<|?_; exact ⟨(_, _), ⟨rfl, rfl, trivial⟩, ⟨rfl, rfl, rfl, trivial⟩, fun h => by unfold inB at h; exact Prod.ext (IntWalk.i64_in _ (by omega)) (IntWalk.i64_in _ (by omega)), hst⟩
end Go.Proofs.YtaanjifekgfemaaGreat.Cl
end
section
namespace Go.Proofs.YtaanjifekgfemaaGreat.K
open Tryz
open Go.RowKit
section
variable {P : Program} {n : Fr} {c : Code} {Q : Post} {ρ : Env} {w0 w : World} {F0 : List Nat} {L G : List Res} {S : World → Prop} {ty t t' : TypeId} {x y : Operand}
theorem cellsR_shape {w : World} {b : Nat} {cs : List Value} {e : TypeId} (h : (cellsR b cs e).holds w) : w.shape? b = some (e, cs.length) := by
  obtain ⟨fr, h, _⟩ := h; simp [World.shape?, h]
theorem Y.toUnsafe {e T : TypeId} {ji : TypeInfo} (hs : P.underlying t = some (.pointer e)) (hd : P.underlying t' = some .unsafePointer) (ht : P.info? e = some ji) (hj : ji.size ≠ 0) (j : Nat) {b : Nat} {cs : List Value} (hx : ev ρ x = .pointer (some ⟨b, 0, none⟩)) (hL : L[j]? = some (cellsR b cs T)) (hn : Nat.blt 0 cs.length = true) :
    Y P (Ctx w0 F0 L G) ρ (.convert t t' x) ty (.pointer (some ⟨b, 0, none⟩)) := fun w hw o ho _ => by
  have h := Lib.run_to_unsafe (P := P) (w := w) ⟨b, 0, none⟩ hs hd ht hj (cellsR_shape (hw.res (.inl (List.mem_of_getElem? hL)))) (by simpa [Nat.blt_eq] using hn); simp [execOp, ho, hx, h]
theorem Y.fromUnsafe {u T : TypeId} {ji : TypeInfo} (hs : P.underlying t = some .unsafePointer) (hd : P.underlying t' = some (.pointer u)) (hu : P.info? u = some ji) (j : Nat) {b : Nat} {cs : List Value} (hx : ev ρ x = .pointer (some ⟨b, 0, none⟩)) (hL : L[j]? = some (cellsR b cs T)) (hlies : liesAt P P.depth T (cs.length / P.cellsOf T) 0 u 1 = true) :
    Y P (Ctx w0 F0 L G) ρ (.convert t t' x) ty (.pointer (some ⟨b, 0, none⟩)) := fun w hw o ho _ => by
  have h := Lib.run_from_unsafe (P := P) (w := w) ⟨b, 0, none⟩ hs hd hu (cellsR_shape (hw.res (.inl (List.mem_of_getElem? hL)))) hlies; simp [execOp, ho, hx, h]
theorem Y.ext {f : FuncId} {v : Value} {ts : Array TypeId} (hf : ∀ w, (callFunc f #[v]).run P w = .ok (.value v) w) (hx : ev ρ x = v) : Y P S ρ (.call { callee := .value (.func f), args := #[x], argTypes := ts }) ty v := fun w _ o ho _ => by
  have h0 : execOp (ev ρ) o = callFunc f (#[] ++ #[x].map (ev ρ) ++ #[]) := by rcases o with ⟨_, _, _, _, _, _⟩; simp only at ho; subst ho; rfl
  have e : (#[] ++ #[x].map (ev ρ) ++ #[] : Array Value) = #[v] := by simp [hx]
  rw [h0, e]; exact hf w
theorem Y.nePtrSame {e : TypeId} {ji : TypeInfo} {a : Addr} (hp : P.underlying t = some (.pointer e)) (hi : P.info? e = some ji) (hx : ev ρ x = .pointer (some a)) (hy : ev ρ y = .pointer (some a)) : Y P S ρ (.binOp .neq t x y t') ty (.bool false) := fun w _ o ho _ => by
  have he : ∀ w, (eqGuard .neq t x y (.pointer (some a)) (.pointer (some a))).run P w = .ok () w := fun w => by unfold eqGuard; simp
  have h := Lib.run_neq_ptr_same (P := P) (w := w) a hp hi; simp only [execOp, ho, hx, hy]; simp [he, h]
end
section
variable {P : Program} {n : Fr} {c : Code} {Q : Post} {ρ : Env} {w0 w : World} {F0 : List Nat} {L G : List Res} {S : World → Prop} {ty t t' : TypeId} {x y : Operand}
theorem append_str_at {u e : TypeId} {i : TypeInfo} (ht : P.underlying t = some (.slice e)) (hu : P.underlying u = some .string) (hi : P.info? e = some i) (hz : i.zero = some (.int .u8 0)) (hs1 : i.size = 1) (hby : i.bytes = 1)
    {g m cp : Nat} {xs : List Value} (hown : w.ownsRow 0 e 1 (.slice (some ⟨g, 0, none⟩) m cp) m xs) (s : ByteArray) (h48 : m + s.size ≤ 140737488355328) {v' : Value} {w' : World} (hr : (Builtin.append_ #[t, u] ty #[.slice (some ⟨g, 0, none⟩) m cp, .string s]).run P w = .ok v' w') :
    v'.ownBlock = some g ∨ v'.ownBlock = some w.heap.size := by
  rcases hown.2 with ⟨h1, _⟩ | ⟨g', cap', cur, h1, _, h3, h4, h5, h6, h7⟩
  · cases h1
  · injection h1 with h1 h8 h9; injection h1 with h1; injection h1 with h1; subst h1; subst h9; have hxl : xs.length = m := by simpa using hown.1
    have hcs : cur.size = cp := by simpa using h6
    by_cases hroom : m + s.size ≤ cp
    · have h := Lib.run_append_room_string (P := P) w t u ty e i ht hu hi hs1 g m cp cur h3 s hroom (by omega); rw [h] at hr; injection hr with hr
      left; rw [← hr]; rfl
    · have h := Lib.run_append_grow_string (P := P) w t u ty e i (.int .u8 0) ht hu hi hz ⟨g, 0, none⟩ m cp xs (by rw [hs1]; simpa using hxl) (World.ownsRow.cells (g := g) hown rfl) s (by omega) (by omega) (by rw [hby]; exact growslice_fits (by omega) (by omega)); rw [h] at hr; injection hr with hr
      right; rw [← hr]; rfl
theorem X.appStr (hst : St w0 F0 w L G) (j : Nat) {u e : TypeId} {i : TypeInfo} (ht : P.underlying t = some (.slice e)) (hu : P.underlying u = some .string) (hi : P.info? e = some i) (hz : i.zero = some (.int .u8 0)) (hs1 : i.size = 1) (hby : i.bytes = 1)
    {g m cp : Nat} {xs : List Value} (hx : ev ρ x = .slice (some ⟨g, 0, none⟩) m cp) (hL : L[j]? = some (rowR (.slice (some ⟨g, 0, none⟩) m cp) e 1 m xs)) {s : ByteArray} (hy : ev ρ y = .string s) (h48 : m + s.size ≤ 140737488355328) {K : Value → World → Prop}
    (k : ∀ A' c' w', St w0 F0 w' (L.set j (rowR (.slice A' (m + s.size) c') e 1 (m + s.size) (xs ++ Lib.strCells s))) G → K (.slice A' (m + s.size) c') w') : X P ρ w (.call { callee := .builtin .append, args := #[x, y], argTypes := #[t, u] }) ty K := by
  have hown : w.ownsRow 0 e 1 (.slice (some ⟨g, 0, none⟩) m cp) m xs := hst.res _ (List.mem_of_getElem? hL); intro a ops Q o ho hty ha hw; obtain ⟨v', w', hrun, hown', hg, _⟩ := Lib.run_append_own_string (P := P) w 0 t u ty e i ht hu hi hz hs1 hby _ m xs hown s (by unfold maxLen; omega) h48 (Nat.zero_le _); have hat := append_str_at ht hu hi hz hs1 hby hown s h48 hrun; obtain ⟨A', c', rfl, _⟩ := rowR_shape (w := w') (v := v') (e := e) (size := 1) hown'; have hp := hst.perm (perm_at hL); refine wpl hw (v := .slice A' (m + s.size) c') (w' := w') ?_ ⟨_, rfl, k A' c' w' ?_⟩
  · rw [ha]; simp [execOp, ho, resolve, invoke, builtin, hx, hy, hty, hrun]
  · refine (St.step (L1 := [rowR (.slice (some ⟨g, 0, none⟩) m cp) e 1 m xs]) (L2 := [rowR (.slice A' (m + s.size) c') e 1 (m + s.size) (xs ++ Lib.strCells s)]) hp hg.os hg.tape hg.output hg.size ?_ ?_ ?_ (by intro r hr; simp at hr; subst hr; exact hown')).perm (perm_set hL)
    · intro b hb hn; refine hg.block b hb (fun h => hn ?_); simp [(ownBlock_blockOf _ b).2 h.symm]
    · intro b hb; simp at hb; have hb' := (ownBlock_blockOf _ b).1 hb
      rcases hat with hat | hat
      · left
        simp [(ownBlock_blockOf (.slice (some ⟨g, 0, none⟩) m cp) b).2 (by rw [← hb', hat]; rfl)]
      · right
        rw [hat] at hb'; injection hb' with hb'; subst hb'; exact ⟨Nat.le_refl _, (World.ownsRow.lt hown' _ hat).2⟩
    · cases A' <;> simp [blockOf]
theorem X.appStrN (hst : St w0 F0 w L G) (j : Nat) {u e : TypeId} {i : TypeInfo} (ht : P.underlying t = some (.slice e)) (hu : P.underlying u = some .string) (hi : P.info? e = some i) (hz : i.zero = some (.int .u8 0)) (hs1 : i.size = 1) (hby : i.bytes = 1)
    (hx : ev ρ x = .slice none 0 0) (hL : L[j]? = some (rowR (.slice none 0 0) e 1 0 [])) {s : ByteArray} (hy : ev ρ y = .string s) (h0 : 0 < s.size) (h48 : s.size ≤ 140737488355328) {K : Value → World → Prop}
    (k : ∀ A' c' w', St w0 F0 w' (L.set j (rowR (.slice A' s.size c') e 1 s.size (Lib.strCells s))) G → K (.slice A' s.size c') w') : X P ρ w (.call { callee := .builtin .append, args := #[x, y], argTypes := #[t, u] }) ty K := by
  have hown : w.ownsRow 0 e 1 (.slice none 0 0) 0 [] := hst.res _ (List.mem_of_getElem? hL); intro a ops Q o ho hty ha hw; obtain ⟨v', w', hrun, hown', hg, _⟩ := Lib.run_append_own_string (P := P) w 0 t u ty e i ht hu hi hz hs1 hby _ 0 [] hown s (by unfold maxLen; omega) (by omega) (Nat.zero_le _); have h := run_append_nil_string (P := P) w t u ty e i (.int .u8 0) ht hu hi hz s h0 (by omega) (by rw [hby]; omega); rw [hrun] at h; injection h with hv hw'; subst hv; rw [Nat.zero_add, List.nil_append] at hown'; have hp := hst.perm (perm_at hL); refine wpl hw (v := .slice (some ⟨w.heap.size, 0, none⟩) s.size (grownCap w s.size 0 e)) (w' := w') ?_ ⟨_, rfl, k _ _ w' ?_⟩
  · rw [ha]; simp [execOp, ho, resolve, invoke, builtin, hx, hy, hty, hrun]
  · refine (St.step (L1 := [rowR (.slice none 0 0) e 1 0 []]) (L2 := [rowR (.slice (some ⟨w.heap.size, 0, none⟩) s.size (grownCap w s.size 0 e)) e 1 s.size (Lib.strCells s)]) hp hg.os hg.tape hg.output hg.size ?_ ?_ ?_ (by intro r hr; simp at hr; subst hr; exact hown')).perm (perm_set hL)
    · intro b hb hn; exact hg.block b hb (fun h => by cases h)
    · intro b hb; simp [blockOf] at hb; subst hb; exact .inr ⟨Nat.le_refl _, (World.ownsRow.lt hown' _ rfl).2⟩
    · simp [blockOf]
end
end Go.Proofs.YtaanjifekgfemaaGreat.K
end
section
namespace Go.Proofs.YtaanjifekgfemaaGreat.Cl
open Tryz
open Go.RowKit Go.Proofs.YtaanjifekgfemaaGreat.K Go.Proofs.YtaanjifekgfemaaGreat.W
attribute [local irreducible] bound clip adds sub neg mag mulp mul maxs
theorem fa307_0 : FA 307 0 0 := fun _ _ => by simp [Instr.fieldAt, Instr.sureAddr, go_sem]
theorem fa307_1 : FA 307 1 1 := fun _ _ => by simp [Instr.fieldAt, Instr.sureAddr, go_sem]
theorem cf200 : CF 200 := fun _ _ => by simp [go_sem]
theorem ext202 (v : Value) : ∀ w, (callFunc 202 #[v]).run Tryz.prog w = .ok (.value v) w := fun w => by
  rw [run_callFunc_extern func202 (by kernel_rfl) (by kernel_rfl) (by kernel_rfl) (e := Extern.AbiNoEscape.same) (by kernel_rfl), Go.Lib.run_noEscape]; rfl
theorem copyCheck_any (b : Nat) (a : Option Addr) (ha : a = none ∨ a = some ⟨b, 0, none⟩) (v : Value) (w0 w : World) (F0 : List Nat) (L G : List Res) (hst : St w0 F0 w (cellsR b [.pointer a, v] 307 :: L) G) :
    Calls Tryz.prog 200 #[.pointer (some ⟨b, 0, none⟩)] w fun e w' => e = .returned (.tuple #[]) ∧ St w0 F0 w' (cellsR b [.pointer (some ⟨b, 0, none⟩), v] 307 :: L) G := by
  obtain ⟨ji, hji⟩ : ∃ ji, Tryz.prog.info? 307 = some ji ∧ ji.size ≠ 0 := by
    have h : (Tryz.prog.info? 307).map (·.size) = some 2 := by kernel_rfl
    obtain ⟨ji, h1, h2⟩ := Option.map_eq_some_iff.1 h; exact ⟨ji, h1, by rw [h2]; decide⟩
  rcases ha with rfl | rfl
  · refine W.func func200 rfl ntmps200 rfl<|W.sr rfl<|hst.y rfl (Y.moveP rfl)<|hst.y rfl (Y.nilCheck rfl)<|hst.y rfl (Y.fieldAddr fa307_0 rfl)<|hst.y rfl (Y.load 0 isAgg305 rfl rfl rfl)<|hst.y rfl (Y.isNil underlying305 rfl rfl)<|Ops.done rfl<|W.condT rfl rfl<|W.region rfl<|hst.y rfl (Y.moveP rfl)<|hst.y rfl (Y.moveP rfl)<|hst.y rfl (Y.toUnsafe underlying305 underlying314 hji.1 hji.2 0 rfl rfl rfl)<|hst.y rfl (Y.ext (ext202 _) rfl)<|hst.y rfl (Y.fromUnsafe underlying314 underlying305 hji.1 0 rfl rfl (by kernel_rfl))<|?_; refine hst.y rfl (Y.nilCheck rfl)<|hst.y rfl (Y.fieldAddr fa307_0 rfl)<|Ops.ww rfl (X.storeV hst 0 (.pointer _) sizeOf305 rfl rfl rfl rfl (lZ rfl) rfl rfl fun w1_7 hst => Ops.done rfl<|⟨_, Rslt.none results200, ?_⟩); exact ⟨rfl, hst⟩
  · refine W.func func200 rfl ntmps200 rfl<|W.sr rfl<|hst.y rfl (Y.moveP rfl)<|hst.y rfl (Y.nilCheck rfl)<|hst.y rfl (Y.fieldAddr fa307_0 rfl)<|hst.y rfl (Y.load 0 isAgg305 rfl rfl rfl)<|hst.y rfl (Y.isNil underlying305 rfl rfl)<|Ops.done rfl<|W.condF rfl rfl<|W.sr rfl<|hst.y rfl (Y.moveP rfl)<|hst.y rfl (Y.nilCheck rfl)<|hst.y rfl (Y.fieldAddr fa307_0 rfl)<|hst.y rfl (Y.load 0 isAgg305 rfl rfl rfl)<|hst.y rfl (Y.moveP rfl)<|hst.y rfl (Y.nePtrSame underlying305 hji.1 rfl rfl)<|Ops.done rfl<|W.condF rfl rfl<|W.skip rfl<|⟨_, Rslt.none results200, ?_⟩; exact ⟨rfl, hst⟩
theorem writeString_some (b : Nat) (a : Option Addr) (ha : a = none ∨ a = some ⟨b, 0, none⟩) (gb m cp : Nat) (xs : List Value) (s : ByteArray) (h48 : m + s.size ≤ 140737488355328) (w0 w : World) (F0 : List Nat) (L G : List Res) (hst : St w0 F0 w (cellsR b [.pointer a, .slice (some ⟨gb, 0, none⟩) m cp] 307 :: rowR (.slice (some ⟨gb, 0, none⟩) m cp) 5 1 m (xs) :: L) G) :
    Calls Tryz.prog 194 #[.pointer (some ⟨b, 0, none⟩), .string s] w fun e w' => ∃ A' c', e = .returned (.tuple #[.int .i64 s.size, .nilIface]) ∧ St w0 F0 w' (cellsR b [.pointer (some ⟨b, 0, none⟩), .slice A' (m + s.size) c'] 307 :: rowR (.slice A' (m + s.size) c') 5 1 (m + s.size) (xs ++ Go.Lib.strCells s) :: L) G := by
  obtain ⟨ii, hi⟩ : ∃ ii, Tryz.prog.info? 5 = some ii ∧ ii.zero = some (.int .u8 0) ∧ ii.size = 1 ∧ ii.bytes = 1 := by
    have h : (Tryz.prog.info? 5).map (fun i => (i.zero, i.size, i.bytes)) = some (some (.int .u8 0), 1, 1) := by kernel_rfl
    obtain ⟨ii, h1, h2⟩ := Option.map_eq_some_iff.1 h; simp only [Prod.mk.injEq] at h2; exact ⟨ii, h1, h2⟩
  refine W.func func194 rfl ntmps194 rfl<|W.sr rfl<|hst.y rfl (Y.assignI rfl)<|hst.y rfl (Y.assignV rfl)<|Ops.ds rfl rfl<|hst.y rfl (Y.moveP rfl)<|Ops.ww rfl (X.ret cf200 (copyCheck_any b a ha _ _ _ _ _ _ hst) rfl fun w7 hst => Ops.ds rfl rfl<|hst.y rfl (Y.moveP rfl)<|hst.y rfl (Y.moveP rfl)<|hst.y rfl (Y.nilCheck rfl)<|hst.y rfl (Y.fieldAddr fa307_1 rfl)<|hst.y rfl (Y.load 0 isAgg172 rfl rfl rfl)<|hst.y rfl (Y.moveT rfl)<|Ops.ww rfl (X.appStr hst 1 underlying172 underlying9 hi.1 hi.2.1 hi.2.2.1 hi.2.2.2 rfl rfl rfl h48 fun A14 c14 w14 hst => hst.y rfl (Y.nilCheck rfl)<|hst.y rfl (Y.fieldAddr fa307_1 rfl)<|Ops.ww rfl (X.storeV hst 0 (.slice _ _ _) sizeOf172 rfl rfl rfl rfl (lZ rfl) rfl rfl fun w2_9 hst => Ops.ds rfl rfl<|hst.y rfl (Y.moveT rfl)<|hst.y rfl (Y.lenT underlying9 rfl)<|hst.y rfl (Y.assignI rfl)<|hst.y rfl (Y.assignV rfl)<|Ops.done rfl<|W.ret rfl<|⟨_, Rslt.two results194 rfl rfl, ?_⟩))); exact ⟨A14, c14, rfl, hst⟩
theorem writeString_nil (b : Nat) (a : Option Addr) (ha : a = none ∨ a = some ⟨b, 0, none⟩) (s : ByteArray) (h0 : 0 < s.size) (h48 : s.size ≤ 140737488355328) (w0 w : World) (F0 : List Nat) (L G : List Res) (hst : St w0 F0 w (cellsR b [.pointer a, .slice none 0 0] 307 :: rowR (.slice none 0 0) 5 1 0 ([]) :: L) G) :
    Calls Tryz.prog 194 #[.pointer (some ⟨b, 0, none⟩), .string s] w fun e w' => ∃ A' c', e = .returned (.tuple #[.int .i64 s.size, .nilIface]) ∧ St w0 F0 w' (cellsR b [.pointer (some ⟨b, 0, none⟩), .slice A' s.size c'] 307 :: rowR (.slice A' s.size c') 5 1 s.size (Go.Lib.strCells s) :: L) G := by
  obtain ⟨ii, hi⟩ : ∃ ii, Tryz.prog.info? 5 = some ii ∧ ii.zero = some (.int .u8 0) ∧ ii.size = 1 ∧ ii.bytes = 1 := by
    have h : (Tryz.prog.info? 5).map (fun i => (i.zero, i.size, i.bytes)) = some (some (.int .u8 0), 1, 1) := by kernel_rfl
    obtain ⟨ii, h1, h2⟩ := Option.map_eq_some_iff.1 h; simp only [Prod.mk.injEq] at h2; exact ⟨ii, h1, h2⟩
  refine W.func func194 rfl ntmps194 rfl<|W.sr rfl<|hst.y rfl (Y.assignI rfl)<|hst.y rfl (Y.assignV rfl)<|Ops.ds rfl rfl<|hst.y rfl (Y.moveP rfl)<|Ops.ww rfl (X.ret cf200 (copyCheck_any b a ha _ _ _ _ _ _ hst) rfl fun w7 hst => Ops.ds rfl rfl<|hst.y rfl (Y.moveP rfl)<|hst.y rfl (Y.moveP rfl)<|hst.y rfl (Y.nilCheck rfl)<|hst.y rfl (Y.fieldAddr fa307_1 rfl)<|hst.y rfl (Y.load 0 isAgg172 rfl rfl rfl)<|hst.y rfl (Y.moveT rfl)<|Ops.ww rfl (X.appStrN hst 1 underlying172 underlying9 hi.1 hi.2.1 hi.2.2.1 hi.2.2.2 rfl rfl rfl h0 h48 fun A14 c14 w14 hst => hst.y rfl (Y.nilCheck rfl)<|hst.y rfl (Y.fieldAddr fa307_1 rfl)<|Ops.ww rfl (X.storeV hst 0 (.slice _ _ _) sizeOf172 rfl rfl rfl rfl (lZ rfl) rfl rfl fun w2_9 hst => Ops.ds rfl rfl<|hst.y rfl (Y.moveT rfl)<|hst.y rfl (Y.lenT underlying9 rfl)<|hst.y rfl (Y.assignI rfl)<|hst.y rfl (Y.assignV rfl)<|Ops.done rfl<|W.ret rfl<|⟨_, Rslt.two results194 rfl rfl, ?_⟩))); exact ⟨A14, c14, rfl, hst⟩
end Go.Proofs.YtaanjifekgfemaaGreat.Cl
end
section
namespace Go.Proofs.YtaanjifekgfemaaGreat.K
open Tryz
open Go.RowKit
section
variable {P : Program} {ρ : Env} {S : World → Prop} {ty t t' : TypeId} {x y : Operand}
theorem quo_nn {m m' : Int} (h : 0 ≤ m) (h1 : 1 ≤ m') : m.tdiv m' = m / m' := Int.tdiv_eq_ediv_of_nonneg h
theorem div_le_self' {m m' M : Int} (h : 0 ≤ m) (hM : m ≤ M) (h1 : 1 ≤ m') : 0 ≤ m / m' ∧ m / m' ≤ M := ⟨Int.ediv_nonneg h (by omega), Int.le_trans (Int.ediv_le_self _ h) hM⟩
theorem Y.quo32 {m m' : Int} (hx : ev ρ x = .int .u32 m) (hy : ev ρ y = .int .u32 m') (h0 : (0 ≤ m ∧ m ≤ 4294967295) ∧ 1 ≤ m') : Y P S ρ (.binOp .quo t x y t') ty (.int .u32 (m / m')) := by
  have h := Y.quo (P := P) (S := S) (t := t) (t' := t') (ty := ty) hx hy (by omega); have h2 := div_le_self' h0.1.1 h0.1.2 h0.2; rwa [quo_nn h0.1.1 h0.2, IntWalk.u32_in _ h2] at h
theorem u64_in (n : Int) (h : 0 ≤ n ∧ n ≤ 18446744073709551615) : IntKind.u64.wrap n = n := by rw [IntKind.wrap_u64]; omega
theorem Y.quo64 {m m' : Int} (hx : ev ρ x = .int .u64 m) (hy : ev ρ y = .int .u64 m') (h0 : (0 ≤ m ∧ m ≤ 18446744073709551615) ∧ 1 ≤ m') : Y P S ρ (.binOp .quo t x y t') ty (.int .u64 (m / m')) := by
  have h := Y.quo (P := P) (S := S) (t := t) (t' := t') (ty := ty) hx hy (by omega); have h2 := div_le_self' h0.1.1 h0.1.2 h0.2; rwa [quo_nn h0.1.1 h0.2, u64_in _ h2] at h
theorem Y.mul32 {m m' : Int} (hx : ev ρ x = .int .u32 m) (hy : ev ρ y = .int .u32 m') (h0 : 0 ≤ m * m' ∧ m * m' ≤ 4294967295) : Y P S ρ (.binOp .mul t x y t') ty (.int .u32 (m * m')) := by
  have h := Y.mul (P := P) (S := S) (t := t) (t' := t') (ty := ty) hx hy; rwa [IntWalk.u32_in _ h0] at h
theorem Y.add32 {m m' : Int} (hx : ev ρ x = .int .u32 m) (hy : ev ρ y = .int .u32 m') (h0 : 0 ≤ m + m' ∧ m + m' ≤ 4294967295) : Y P S ρ (.binOp .add t x y t') ty (.int .u32 (m + m')) := by
  have h := Y.add (P := P) (S := S) (t := t) (t' := t') (ty := ty) hx hy; rwa [IntWalk.u32_in _ h0] at h
theorem Y.conv32 {m : Int} (ht : P.underlying t' = some (.int .u32)) {d : TypeDesc} (hs : P.underlying t = some d) (hx : ev ρ x = .int .u64 m) : Y P S ρ (.convert t t' x) ty (.int .u32 (m % 4294967296)) := by
  have h := Y.conv (S := S) (ty := ty) ht hs hx; rwa [IntKind.wrap_u32] at h
end
end Go.Proofs.YtaanjifekgfemaaGreat.K
namespace Go.Proofs.YtaanjifekgfemaaGreat.Cl
open Tryz
open Go.RowKit Go.Proofs.YtaanjifekgfemaaGreat.K Go.Proofs.YtaanjifekgfemaaGreat.W
def smL : List UInt8 := (List.range 100).flatMap fun i => [UInt8.ofNat (48 + i / 10), UInt8.ofNat (48 + i % 10)]
def smB (x : Int) : UInt8 := smL.getD x.toNat 0
theorem smL_length : smL.length = 200 := by decide +kernel
def put2 (cs : List UInt8) (a b x : Int) : List UInt8 := (cs.set (1 + a.toNat * 1) (smB (x + 1))).set (1 + b.toNat * 1) (smB x)
theorem bvs_set (l : List UInt8) (i : Nat) (c : UInt8) : (bvs l).set i (bv c) = bvs (l.set i c) := by unfold bvs; rw [List.map_set]
theorem put2_length (cs : List UInt8) (a b x : Int) : (put2 cs a b x).length = cs.length := by simp [put2]
structure FS where
  cs : List UInt8
  n : Nat
  u : Int
def rnd8 (s : FS) : FS where
  cs := put2 (put2 (put2 (put2 s.cs ((s.n : Int) - 1) ((s.n : Int) - 2) (s.u % 100000000 % 4294967296 % 10000 % 100 * 2)) ((s.n : Int) - 3) ((s.n : Int) - 4) (s.u % 100000000 % 4294967296 % 10000 / 100 * 2)) ((s.n : Int) - 5) ((s.n : Int) - 6) (s.u % 100000000 % 4294967296 / 10000 % 100 * 2)) ((s.n : Int) - 7) ((s.n : Int) - 8) (s.u % 100000000 % 4294967296 / 10000 / 100 * 2)
  n := s.n - 8
  u := s.u / 100000000
def loop8 : Nat → FS → FS
  | 0, s => s
  | f + 1, s => if 8 ≤ s.n then loop8 f (rnd8 s) else s
theorem loop8_small {f : Nat} {s : FS} (h : s.n < 8) : loop8 f s = s := by
  cases f with
  | zero => rfl
  | succ f => exact if_neg (by omega)
theorem loop8_step {f : Nat} {s : FS} (h : 8 ≤ s.n) (hf : s.n ≤ 8 * f + 7) : ∃ g, f = g + 1 ∧ loop8 f s = loop8 g (rnd8 s) := by
  cases f with
  | zero => omega
  | succ f => exact ⟨f, rfl, if_pos h⟩
def t4 (s : FS) : FS := if 4 ≤ s.n then ⟨put2 (put2 s.cs ((s.n : Int) - 1) ((s.n : Int) - 2) (s.u % 10000 % 100 * 2)) ((s.n : Int) - 3) ((s.n : Int) - 4) (s.u % 10000 / 100 * 2), s.n - 4, s.u / 10000⟩ else s
def t2 (s : FS) : FS := if 2 ≤ s.n then ⟨put2 s.cs ((s.n : Int) - 1) ((s.n : Int) - 2) (s.u % 100 * 2), s.n - 2, s.u / 100⟩ else s
def t1 (s : FS) : List UInt8 := if 0 < s.n then s.cs.set 1 (ub (IntKind.u32.wrap (48 + s.u))) else s.cs
def cut32 (s : FS) : FS := { s with u := s.u % 4294967296 }
def fmt10 (cs : List UInt8) (n : Nat) (u : Int) : List UInt8 := t1 (t2 (t4 (cut32 (loop8 3 ⟨cs, n, u⟩))))
theorem rnd8_length (s : FS) : (rnd8 s).cs.length = s.cs.length := by simp [rnd8, put2_length]
theorem loop8_length (f : Nat) (s : FS) : (loop8 f s).cs.length = s.cs.length := by
  induction f generalizing s with
  | zero => rfl
  | succ f ih =>
    unfold loop8; split
    · rw [ih, rnd8_length]
    · rfl
theorem t4_length (s : FS) : (t4 s).cs.length = s.cs.length := by
  unfold t4; split
  · show (put2 (put2 _ _ _ _) _ _ _).length = _; rw [put2_length, put2_length]
  · rfl
theorem t2_length (s : FS) : (t2 s).cs.length = s.cs.length := by
  unfold t2; split
  · show (put2 _ _ _ _).length = _; rw [put2_length]
  · rfl
theorem t1_length (s : FS) : (t1 s).length = s.cs.length := by
  unfold t1; split
  · rw [List.length_set]
  · rfl
theorem fmt10_length (cs : List UInt8) (n : Nat) (u : Int) : (fmt10 cs n u).length = cs.length := by
  unfold fmt10; rw [t1_length, t2_length, t4_length]; exact loop8_length 3 ⟨cs, n, u⟩
end Go.Proofs.YtaanjifekgfemaaGreat.Cl
end
section
namespace Go.Proofs.YtaanjifekgfemaaGreat.Cl
open Tryz
open Go.RowKit Go.Proofs.YtaanjifekgfemaaGreat.K Go.Proofs.YtaanjifekgfemaaGreat.W
attribute [local irreducible] bound clip adds sub neg mag mulp mul maxs
theorem elt_1 (b : Nat) (i : Int) : elt (some ⟨b, 1, none⟩) i 1 = ⟨b, 1 + i.toNat * 1, none⟩ := by
  unfold elt; show (⟨b, 1, none⟩ : Addr).add _ = _; rw [add_lit']
theorem Y.idx1 {P : Program} {S : World → Prop} {ρ : Env} {ty t e : TypeId} {x y : Operand} (ht : P.underlying t = some (.slice e)) (hs : ∀ w, (sizeOf e).run P w = .ok 1 w) {b l cp : Nat} (hx : ev ρ x = .slice (some ⟨b, 1, none⟩) l cp) {ki : IntKind} {i : Int} (hi : ev ρ y = .int ki i) (h0 : 0 ≤ i ∧ i < l) :
    Y P S ρ (.indexAddr t x y) ty (.pointer (some ⟨b, 1 + i.toNat * 1, none⟩)) := by
  rw [← elt_1]; exact Y.indexAddr ht hs hx hi (by simp) h0
theorem Y.idx1z {P : Program} {S : World → Prop} {ρ : Env} {ty t e : TypeId} {x y : Operand} (ht : P.underlying t = some (.slice e)) (hs : ∀ w, (sizeOf e).run P w = .ok 1 w) {b l cp : Nat} (hx : ev ρ x = .slice (some ⟨b, 1, none⟩) l cp) (hi : ev ρ y = .int .i64 0) (h0 : 0 < l) :
    Y P S ρ (.indexAddr t x y) ty (.pointer (some ⟨b, 1, none⟩)) := Y.idx1 ht hs hx hi (by omega)
theorem smL_str : K.str smL = { data := #[48, 48, 48, 49, 48, 50, 48, 51, 48, 52, 48, 53, 48, 54, 48, 55, 48, 56, 48, 57, 49, 48, 49, 49, 49, 50, 49, 51, 49, 52, 49, 53, 49, 54, 49, 55, 49, 56, 49, 57, 50, 48, 50, 49, 50, 50, 50, 51, 50, 52, 50, 53, 50, 54, 50, 55, 50, 56, 50, 57, 51, 48, 51, 49, 51, 50, 51, 51, 51, 52, 51, 53, 51, 54, 51, 55, 51, 56, 51, 57, 52, 48, 52, 49, 52, 50, 52, 51, 52, 52, 52, 53, 52, 54, 52, 55, 52, 56, 52, 57, 53, 48, 53, 49, 53, 50, 53, 51, 53, 52, 53, 53, 53, 54, 53, 55, 53, 56, 53, 57, 54, 48, 54, 49, 54, 50, 54, 51, 54, 52, 54, 53, 54, 54, 54, 55, 54, 56, 54, 57, 55, 48, 55, 49, 55, 50, 55, 51, 55, 52, 55, 53, 55, 54, 55, 55, 55, 56, 55, 57, 56, 48, 56, 49, 56, 50, 56, 51, 56, 52, 56, 53, 56, 54, 56, 55, 56, 56, 56, 57, 57, 48, 57, 49, 57, 50, 57, 51, 57, 52, 57, 53, 57, 54, 57, 55, 57, 56, 57, 57] } := by decide +kernel
theorem Y.sm {P : Program} {S : World → Prop} {ρ : Env} {ty t : TypeId} {x y : Operand} (ht : P.underlying t = some .string) (hx : ev ρ x = .string { data := #[48, 48, 48, 49, 48, 50, 48, 51, 48, 52, 48, 53, 48, 54, 48, 55, 48, 56, 48, 57, 49, 48, 49, 49, 49, 50, 49, 51, 49, 52, 49, 53, 49, 54, 49, 55, 49, 56, 49, 57, 50, 48, 50, 49, 50, 50, 50, 51, 50, 52, 50, 53, 50, 54, 50, 55, 50, 56, 50, 57, 51, 48, 51, 49, 51, 50, 51, 51, 51, 52, 51, 53, 51, 54, 51, 55, 51, 56, 51, 57, 52, 48, 52, 49, 52, 50, 52, 51, 52, 52, 52, 53, 52, 54, 52, 55, 52, 56, 52, 57, 53, 48, 53, 49, 53, 50, 53, 51, 53, 52, 53, 53, 53, 54, 53, 55, 53, 56, 53, 57, 54, 48, 54, 49, 54, 50, 54, 51, 54, 52, 54, 53, 54, 54, 54, 55, 54, 56, 54, 57, 55, 48, 55, 49, 55, 50, 55, 51, 55, 52, 55, 53, 55, 54, 55, 55, 55, 56, 55, 57, 56, 48, 56, 49, 56, 50, 56, 51, 56, 52, 56, 53, 56, 54, 56, 55, 56, 56, 56, 57, 57, 48, 57, 49, 57, 50, 57, 51, 57, 52, 57, 53, 57, 54, 57, 55, 57, 56, 57, 57] }) {ki : IntKind} {i : Int} (hy : ev ρ y = .int ki i) (h : 0 ≤ i ∧ i < 200) : Y P S ρ (.index t x y) ty (bv (smB i)) := by
  rw [← smL_str] at hx; exact Y.indexT ht (k := i.toNat) hx hy (by omega) (by rw [smL_length]; omega)
set_option maxHeartbeats 4000000 in
theorem fmt_any (b : Nat) (T : TypeId) (cs : List UInt8) (hcs : cs.length = 24) (nd : Nat) (hnd : nd ≤ 23) (cp : Nat) (u : Int) (hu : 0 ≤ u ∧ u ≤ 18446744073709551615) (w0 w : World) (F0 : List Nat) (L G : List Res) (hst : St w0 F0 w (cellsR b (bvs (cs)) T :: L) G) :
    Calls Tryz.prog 206 #[.slice (some ⟨b, 1, none⟩) nd cp, .int .u64 u] w fun e w' => e = .returned (.tuple #[]) ∧ St w0 F0 w' (cellsR b (bvs (fmt10 cs nd u)) T :: L) G := by
  refine W.func func206 rfl ntmps206 rfl<|W.sr rfl<|hst.y rfl (Y.moveS rfl)<|hst.y rfl (Y.lenS underlying172 rfl)<|hst.y rfl (Y.assignI rfl)<|Ops.done rfl<|W.seq rfl<|W.block rfl<|?_; refine W.loop (γ := FS) [(0, .slice _ _ _)] (fun x => [(4, .int .i64 (x.n : Int)), (1, .int .u64 x.u)]) (fun x w => (∃ f, (loop8 f x = loop8 3 ⟨cs, nd, u⟩ ∧ x.cs.length = 24) ∧ x.n ≤ nd ∧ x.n ≤ 8 * f + 7 ∧ 0 ≤ x.u ∧ x.u ≤ 18446744073709551615) ∧ St w0 F0 w (cellsR b (bvs (x.cs)) T :: L) G) (fun x => x.n) (⟨cs, nd, u⟩) rfl ⟨rfl, trivial⟩ ?_ ?_ ?_
  · exact ⟨rfl, rfl, trivial⟩
  · exact ⟨⟨3, ⟨rfl, hcs⟩, by dsimp only; omega, by dsimp only; omega, hu⟩, hst⟩
  · clear hst; rintro s j w2 ⟨⟨f, ⟨hl, hsl⟩, hn, hf, hu0, hu1⟩, hst⟩; refine W.seq rfl<|W.sr rfl<|hst.y rfl (Y.moveI rfl)<|hst.yb rfl (Y.geq rfl rfl) (fun b20 hb20 => Ops.done rfl<|?_); cases b20
    · replace hb20 := dF hb20; refine W.condF rfl rfl<|W.exit rfl<|W.seq rfl<|?_; have e8 : loop8 f s = s := loop8_small (by omega); refine W.region rfl<|hst.y rfl (Y.moveI rfl)<|hst.y rfl (Y.conv32 underlying199 underlying192 rfl)<|hst.y rfl (Y.assignI rfl)<|Ops.done rfl<|W.seq rfl<|W.sr rfl<|hst.y rfl (Y.moveI rfl)<|hst.yb rfl (Y.geq rfl rfl) (fun b99 hb99 => Ops.done rfl<|?_); refine W.cut [(0, .slice _ _ _)] (fun x : FS => [(4, .int .i64 (x.n : Int)), (12, .int .u32 x.u)]) (fun x w => (x = t4 (cut32 s) ∧ x.cs.length = 24 ∧ x.n ≤ nd ∧ 0 ≤ x.u ∧ x.u ≤ 4294967295) ∧ St w0 F0 w (cellsR b (bvs (x.cs)) T :: L) G) ⟨rfl, trivial⟩ ?_ ?_
      rotate_left
      · clear hst; rintro s4 j w4 ⟨⟨hs4, hl4, hn4, hu4, hv4⟩, hst⟩; refine W.seq rfl<|W.sr rfl<|hst.y rfl (Y.moveI rfl)<|hst.yb rfl (Y.geq rfl rfl) (fun b139 hb139 => Ops.done rfl<|?_); refine W.cut [(0, .slice _ _ _)] (fun x : FS => [(4, .int .i64 (x.n : Int)), (12, .int .u32 x.u)]) (fun x w => (x = t2 s4 ∧ x.cs.length = 24 ∧ x.n ≤ nd ∧ 0 ≤ x.u ∧ x.u ≤ 4294967295) ∧ St w0 F0 w (cellsR b (bvs (x.cs)) T :: L) G) ⟨rfl, trivial⟩ ?_ ?_
        rotate_left
        · clear hst; rintro s2 j w4 ⟨⟨hs2, hl2, hn2, hu2, hv2⟩, hst⟩; refine W.sr rfl<|hst.y rfl (Y.moveI rfl)<|hst.yb rfl (Y.gtr rfl rfl) (fun b161 hb161 => Ops.done rfl<|?_); cases b161
          · replace hb161 := dF hb161; refine W.condF rfl rfl<|W.skip rfl<|⟨_, Rslt.none results206, ?_⟩; have hq : fmt10 cs nd u = s2.cs := by unfold fmt10; rw [← hl, e8, ← hs4, ← hs2]; exact if_neg (by omega)
            exact ⟨rfl, by rw [hq]; exact hst⟩
          · replace hb161 := dT hb161; refine W.condT rfl rfl<|W.region rfl<|hst.y rfl (Y.moveS rfl)<|hst.y rfl (Y.moveI rfl)<|hst.y rfl (Y.add rfl rfl)<|hst.y rfl (Y.cast (Y.conv underlying5 underlying199 rfl) (ub_val _))<|hst.y rfl (Y.idx1z underlying172 sizeOf5 rfl rfl (by omega))<|Ops.ww rfl (X.storeV hst 0 (bv _) sizeOf5 rfl rfl rfl rfl (by simp only [bvs_length, List.length_set, put2_length]; omega) (bvs_set _ _ _) rfl fun w26_5 hst => ?_); refine Ops.done rfl<|⟨_, Rslt.none results206, ?_⟩; have hq : fmt10 cs nd u = s2.cs.set 1 (ub (IntKind.u32.wrap (48 + s2.u))) := by unfold fmt10; rw [← hl, e8, ← hs4, ← hs2]; exact if_pos (by omega)
            exact ⟨rfl, by rw [hq]; exact hst⟩
        cases b139
        · replace hb139 := dF hb139; refine W.condF rfl rfl<|W.skip rfl<|?_; have hq : t2 s4 = s4 := if_neg (by omega); exact ⟨s4, ⟨rfl, rfl, trivial⟩, ⟨rfl, trivial⟩, ⟨hq.symm, hl4, hn4, hu4, hv4⟩, hst⟩
        · replace hb139 := dT hb139; refine W.condT rfl rfl<|W.sr rfl<|hst.y rfl (Y.moveI rfl)<|hst.y rfl (Y.remI rfl rfl (by omega))<|hst.y rfl (Y.mul32 rfl rfl (by omega))<|hst.y rfl (Y.assignI rfl)<|Ops.ds rfl rfl<|hst.y rfl (Y.moveI rfl)<|hst.y rfl (Y.quo32 rfl rfl (by omega))<|hst.y rfl (Y.assignI rfl)<|Ops.done rfl<|W.seq rfl<|W.drawn rfl (by kernel_rfl) (Ctx _ _ (_) (_)) [12, 13, 14] (.op 0 0 (.op 1 0 (.op 2 0 (.op 3 2 (.op 4 2 (.op 5 2 (.op 6 0 (.op 7 0 (.op 8 0 (.op 9 2 (.op 10 2 (.op 11 0 (.op 12 1 (.op 13 1 (.op 14 1 .nil))))))))))))))) rfl (by kernel_rfl) hst.drew.ctx<|?_; replace hst := hst.drew; generalize World.drew _ = wd at hst ⊢; refine hst.z rfl (Y.moveS rfl)<|hst.z rfl (Y.moveI rfl)<|hst.z rfl (Y.subI rfl rfl (by omega))<|Drw.ya rfl rfl rfl hst.ctx (Y.moveS rfl)<|Drw.ya rfl rfl rfl hst.ctx (Y.moveI rfl)<|Drw.ya rfl rfl rfl hst.ctx (Y.subI rfl rfl (by omega))<|hst.z rfl (Y.moveI rfl)<|hst.z rfl (Y.add32 rfl rfl (by omega))<|hst.z rfl (Y.sm underlying9 rfl rfl (by omega))<|Drw.ya rfl rfl rfl hst.ctx (Y.moveI rfl)<|Drw.ya rfl rfl rfl hst.ctx (Y.sm underlying9 rfl rfl (by omega))<|hst.z rfl (Y.idx1 underlying172 sizeOf5 rfl rfl (by omega))<|Drw.z rfl rfl rfl rfl (X.storeV hst 0 (bv _) sizeOf5 rfl rfl rfl rfl (by simp only [bvs_length, List.length_set, put2_length]; omega) (bvs_set _ _ _) rfl fun w23_12 hst => ?_); refine Drw.zy rfl rfl rfl rfl hst.ctx (Y.idx1 underlying172 sizeOf5 rfl rfl (by omega))<|Drw.z rfl rfl rfl rfl (X.storeV hst 0 (bv _) sizeOf5 rfl rfl rfl rfl (by simp only [bvs_length, List.length_set, put2_length]; omega) (bvs_set _ _ _) rfl fun w23_14 hst => ?_); refine Drw.done<|W.region rfl<|hst.y rfl (Y.moveI rfl)<|hst.y rfl (Y.subI rfl rfl (by omega))<|hst.y rfl (Y.assignI rfl)<|Ops.done rfl<|?_; have hq : t2 s4 = ⟨put2 s4.cs ((s4.n : Int) - 1) ((s4.n : Int) - 2) (s4.u % 100 * 2), s4.n - 2, s4.u / 100⟩ := if_pos (by omega); refine ⟨⟨_, s4.n - 2, s4.u / 100⟩, ⟨?_, rfl, trivial⟩, ⟨rfl, trivial⟩, ⟨hq.symm, by dsimp only; rw [put2_length]; exact hl4, by dsimp only; omega, by dsimp only; omega, by dsimp only; omega⟩, hst⟩; exact congrArg (Value.int .i64) (show (s4.n : Int) - 2 = ((s4.n - 2 : Nat) : Int) by omega)
      cases b99
      · replace hb99 := dF hb99; refine W.condF rfl rfl<|W.skip rfl<|?_; have hq : t4 (cut32 s) = cut32 s := if_neg (by dsimp only [cut32]; omega); exact ⟨cut32 s, ⟨rfl, rfl, trivial⟩, ⟨rfl, trivial⟩, ⟨hq.symm, hsl, hn, by dsimp only [cut32]; omega, by dsimp only [cut32]; omega⟩, hst⟩
      · replace hb99 := dT hb99; refine W.condT rfl rfl<|W.sr rfl<|hst.y rfl (Y.moveI rfl)<|hst.y rfl (Y.remI rfl rfl (by omega))<|hst.y rfl (Y.assignI rfl)<|Ops.ds rfl rfl<|hst.y rfl (Y.moveI rfl)<|hst.y rfl (Y.quo32 rfl rfl (by omega))<|hst.y rfl (Y.assignI rfl)<|Ops.ds rfl rfl<|hst.y rfl (Y.moveI rfl)<|hst.y rfl (Y.quo32 rfl rfl (by omega))<|hst.y rfl (Y.mul32 rfl rfl (by omega))<|hst.y rfl (Y.moveI rfl)<|hst.y rfl (Y.remI rfl rfl (by omega))<|hst.y rfl (Y.mul32 rfl rfl (by omega))<|hst.y rfl (Y.assignI rfl)<|hst.y rfl (Y.assignI rfl)<|Ops.done rfl<|W.seq rfl<|W.drawn rfl (by kernel_rfl) (Ctx _ _ (_) (_)) [12, 13, 14] (.op 0 0 (.op 1 0 (.op 2 0 (.op 3 2 (.op 4 2 (.op 5 2 (.op 6 0 (.op 7 0 (.op 8 0 (.op 9 2 (.op 10 2 (.op 11 0 (.op 12 1 (.op 13 1 (.op 14 1 .nil))))))))))))))) rfl (by kernel_rfl) hst.drew.ctx<|?_; replace hst := hst.drew; generalize World.drew _ = wd at hst ⊢; refine hst.z rfl (Y.moveS rfl)<|hst.z rfl (Y.moveI rfl)<|hst.z rfl (Y.subI rfl rfl (by omega))<|Drw.ya rfl rfl rfl hst.ctx (Y.moveS rfl)<|Drw.ya rfl rfl rfl hst.ctx (Y.moveI rfl)<|Drw.ya rfl rfl rfl hst.ctx (Y.subI rfl rfl (by omega))<|hst.z rfl (Y.moveI rfl)<|hst.z rfl (Y.add32 rfl rfl (by omega))<|hst.z rfl (Y.sm underlying9 rfl rfl (by omega))<|Drw.ya rfl rfl rfl hst.ctx (Y.moveI rfl)<|Drw.ya rfl rfl rfl hst.ctx (Y.sm underlying9 rfl rfl (by omega))<|hst.z rfl (Y.idx1 underlying172 sizeOf5 rfl rfl (by omega))<|Drw.z rfl rfl rfl rfl (X.storeV hst 0 (bv _) sizeOf5 rfl rfl rfl rfl (by simp only [bvs_length, List.length_set, put2_length]; omega) (bvs_set _ _ _) rfl fun w17_12 hst => ?_); refine Drw.zy rfl rfl rfl rfl hst.ctx (Y.idx1 underlying172 sizeOf5 rfl rfl (by omega))<|Drw.z rfl rfl rfl rfl (X.storeV hst 0 (bv _) sizeOf5 rfl rfl rfl rfl (by simp only [bvs_length, List.length_set, put2_length]; omega) (bvs_set _ _ _) rfl fun w17_14 hst => ?_); refine Drw.done<|W.seq rfl<|W.drawn rfl (by kernel_rfl) (Ctx _ _ (_) (_)) [12, 13, 14] (.op 0 0 (.op 1 0 (.op 2 0 (.op 3 2 (.op 4 2 (.op 5 2 (.op 6 0 (.op 7 0 (.op 8 0 (.op 9 2 (.op 10 2 (.op 11 0 (.op 12 1 (.op 13 1 (.op 14 1 .nil))))))))))))))) rfl (by kernel_rfl) hst.drew.ctx<|?_; replace hst := hst.drew; generalize World.drew _ = wd at hst ⊢; refine hst.z rfl (Y.moveS rfl)<|hst.z rfl (Y.moveI rfl)<|hst.z rfl (Y.subI rfl rfl (by omega))<|Drw.ya rfl rfl rfl hst.ctx (Y.moveS rfl)<|Drw.ya rfl rfl rfl hst.ctx (Y.moveI rfl)<|Drw.ya rfl rfl rfl hst.ctx (Y.subI rfl rfl (by omega))<|hst.z rfl (Y.moveI rfl)<|hst.z rfl (Y.add32 rfl rfl (by omega))<|hst.z rfl (Y.sm underlying9 rfl rfl (by omega))<|Drw.ya rfl rfl rfl hst.ctx (Y.moveI rfl)<|Drw.ya rfl rfl rfl hst.ctx (Y.sm underlying9 rfl rfl (by omega))<|hst.z rfl (Y.idx1 underlying172 sizeOf5 rfl rfl (by omega))<|Drw.z rfl rfl rfl rfl (X.storeV hst 0 (bv _) sizeOf5 rfl rfl rfl rfl (by simp only [bvs_length, List.length_set, put2_length]; omega) (bvs_set _ _ _) rfl fun w18_12 hst => ?_); refine Drw.zy rfl rfl rfl rfl hst.ctx (Y.idx1 underlying172 sizeOf5 rfl rfl (by omega))<|Drw.z rfl rfl rfl rfl (X.storeV hst 0 (bv _) sizeOf5 rfl rfl rfl rfl (by simp only [bvs_length, List.length_set, put2_length]; omega) (bvs_set _ _ _) rfl fun w18_14 hst => ?_); refine Drw.done<|W.region rfl<|hst.y rfl (Y.moveI rfl)<|hst.y rfl (Y.subI rfl rfl (by omega))<|hst.y rfl (Y.assignI rfl)<|Ops.done rfl<|?_; have hq : t4 (cut32 s) = ⟨put2 (put2 s.cs ((s.n : Int) - 1) ((s.n : Int) - 2) (s.u % 4294967296 % 10000 % 100 * 2)) ((s.n : Int) - 3) ((s.n : Int) - 4) (s.u % 4294967296 % 10000 / 100 * 2), s.n - 4, s.u % 4294967296 / 10000⟩ := if_pos (by dsimp only [cut32]; omega); refine ⟨⟨_, s.n - 4, s.u % 4294967296 / 10000⟩, ⟨?_, rfl, trivial⟩, ⟨rfl, trivial⟩, ⟨hq.symm, by dsimp only; rw [put2_length, put2_length]; exact hsl, by dsimp only; omega, by dsimp only; omega, by dsimp only; omega⟩, hst⟩; exact congrArg (Value.int .i64) (show (s.n : Int) - 4 = ((s.n - 4 : Nat) : Int) by omega)
    · replace hb20 := dT hb20; refine W.condT rfl rfl<|W.skip rfl<|W.block rfl<|W.seq rfl<|?_; obtain ⟨f', hf', e8⟩ := loop8_step (f := f) (s := s) (by omega) (by omega); refine W.region rfl<|hst.y rfl (Y.moveI rfl)<|hst.y rfl (Y.remI rfl rfl (by omega))<|hst.y rfl (Y.conv32 underlying199 underlying192 rfl)<|hst.y rfl (Y.assignI rfl)<|Ops.ds rfl rfl<|hst.y rfl (Y.moveI rfl)<|hst.y rfl (Y.quo64 rfl rfl (by omega))<|hst.y rfl (Y.assignI rfl)<|Ops.ds rfl rfl<|hst.y rfl (Y.moveI rfl)<|hst.y rfl (Y.quo32 rfl rfl (by omega))<|hst.y rfl (Y.moveI rfl)<|hst.y rfl (Y.remI rfl rfl (by omega))<|hst.y rfl (Y.assignI rfl)<|hst.y rfl (Y.assignI rfl)<|Ops.ds rfl rfl<|hst.y rfl (Y.moveI rfl)<|hst.y rfl (Y.quo32 rfl rfl (by omega))<|hst.y rfl (Y.mul32 rfl rfl (by omega))<|hst.y rfl (Y.moveI rfl)<|hst.y rfl (Y.remI rfl rfl (by omega))<|hst.y rfl (Y.mul32 rfl rfl (by omega))<|hst.y rfl (Y.assignI rfl)<|hst.y rfl (Y.assignI rfl)<|Ops.ds rfl rfl<|hst.y rfl (Y.moveI rfl)<|hst.y rfl (Y.quo32 rfl rfl (by omega))<|hst.y rfl (Y.mul32 rfl rfl (by omega))<|hst.y rfl (Y.moveI rfl)<|hst.y rfl (Y.remI rfl rfl (by omega))<|hst.y rfl (Y.mul32 rfl rfl (by omega))<|hst.y rfl (Y.assignI rfl)<|hst.y rfl (Y.assignI rfl)<|Ops.done rfl<|W.seq rfl<|W.drawn rfl (by kernel_rfl) (Ctx _ _ (_) (_)) [12, 13, 14] (.op 0 0 (.op 1 0 (.op 2 0 (.op 3 2 (.op 4 2 (.op 5 2 (.op 6 0 (.op 7 0 (.op 8 0 (.op 9 2 (.op 10 2 (.op 11 0 (.op 12 1 (.op 13 1 (.op 14 1 .nil))))))))))))))) rfl (by kernel_rfl) hst.drew.ctx<|?_; replace hst := hst.drew; generalize World.drew _ = wd at hst ⊢; refine hst.z rfl (Y.moveS rfl)<|hst.z rfl (Y.moveI rfl)<|hst.z rfl (Y.subI rfl rfl (by omega))<|Drw.ya rfl rfl rfl hst.ctx (Y.moveS rfl)<|Drw.ya rfl rfl rfl hst.ctx (Y.moveI rfl)<|Drw.ya rfl rfl rfl hst.ctx (Y.subI rfl rfl (by omega))<|hst.z rfl (Y.moveI rfl)<|hst.z rfl (Y.add32 rfl rfl (by omega))<|hst.z rfl (Y.sm underlying9 rfl rfl (by omega))<|Drw.ya rfl rfl rfl hst.ctx (Y.moveI rfl)<|Drw.ya rfl rfl rfl hst.ctx (Y.sm underlying9 rfl rfl (by omega))<|hst.z rfl (Y.idx1 underlying172 sizeOf5 rfl rfl (by omega))<|Drw.z rfl rfl rfl rfl (X.storeV hst 0 (bv _) sizeOf5 rfl rfl rfl rfl (by simp only [bvs_length, List.length_set, put2_length]; omega) (bvs_set _ _ _) rfl fun w7_12 hst => ?_); refine Drw.zy rfl rfl rfl rfl hst.ctx (Y.idx1 underlying172 sizeOf5 rfl rfl (by omega))<|Drw.z rfl rfl rfl rfl (X.storeV hst 0 (bv _) sizeOf5 rfl rfl rfl rfl (by simp only [bvs_length, List.length_set, put2_length]; omega) (bvs_set _ _ _) rfl fun w7_14 hst => ?_); refine Drw.done<|W.seq rfl<|W.drawn rfl (by kernel_rfl) (Ctx _ _ (_) (_)) [12, 13, 14] (.op 0 0 (.op 1 0 (.op 2 0 (.op 3 2 (.op 4 2 (.op 5 2 (.op 6 0 (.op 7 0 (.op 8 0 (.op 9 2 (.op 10 2 (.op 11 0 (.op 12 1 (.op 13 1 (.op 14 1 .nil))))))))))))))) rfl (by kernel_rfl) hst.drew.ctx<|?_; replace hst := hst.drew; generalize World.drew _ = wd at hst ⊢; refine hst.z rfl (Y.moveS rfl)<|hst.z rfl (Y.moveI rfl)<|hst.z rfl (Y.subI rfl rfl (by omega))<|Drw.ya rfl rfl rfl hst.ctx (Y.moveS rfl)<|Drw.ya rfl rfl rfl hst.ctx (Y.moveI rfl)<|Drw.ya rfl rfl rfl hst.ctx (Y.subI rfl rfl (by omega))<|hst.z rfl (Y.moveI rfl)<|hst.z rfl (Y.add32 rfl rfl (by omega))<|hst.z rfl (Y.sm underlying9 rfl rfl (by omega))<|Drw.ya rfl rfl rfl hst.ctx (Y.moveI rfl)<|Drw.ya rfl rfl rfl hst.ctx (Y.sm underlying9 rfl rfl (by omega))<|hst.z rfl (Y.idx1 underlying172 sizeOf5 rfl rfl (by omega))<|Drw.z rfl rfl rfl rfl (X.storeV hst 0 (bv _) sizeOf5 rfl rfl rfl rfl (by simp only [bvs_length, List.length_set, put2_length]; omega) (bvs_set _ _ _) rfl fun w8_12 hst => ?_); refine Drw.zy rfl rfl rfl rfl hst.ctx (Y.idx1 underlying172 sizeOf5 rfl rfl (by omega))<|Drw.z rfl rfl rfl rfl (X.storeV hst 0 (bv _) sizeOf5 rfl rfl rfl rfl (by simp only [bvs_length, List.length_set, put2_length]; omega) (bvs_set _ _ _) rfl fun w8_14 hst => ?_); refine Drw.done<|W.seq rfl<|W.drawn rfl (by kernel_rfl) (Ctx _ _ (_) (_)) [12, 13, 14] (.op 0 0 (.op 1 0 (.op 2 0 (.op 3 2 (.op 4 2 (.op 5 2 (.op 6 0 (.op 7 0 (.op 8 0 (.op 9 2 (.op 10 2 (.op 11 0 (.op 12 1 (.op 13 1 (.op 14 1 .nil))))))))))))))) rfl (by kernel_rfl) hst.drew.ctx<|?_; replace hst := hst.drew; generalize World.drew _ = wd at hst ⊢; refine hst.z rfl (Y.moveS rfl)<|hst.z rfl (Y.moveI rfl)<|hst.z rfl (Y.subI rfl rfl (by omega))<|Drw.ya rfl rfl rfl hst.ctx (Y.moveS rfl)<|Drw.ya rfl rfl rfl hst.ctx (Y.moveI rfl)<|Drw.ya rfl rfl rfl hst.ctx (Y.subI rfl rfl (by omega))<|hst.z rfl (Y.moveI rfl)<|hst.z rfl (Y.add32 rfl rfl (by omega))<|hst.z rfl (Y.sm underlying9 rfl rfl (by omega))<|Drw.ya rfl rfl rfl hst.ctx (Y.moveI rfl)<|Drw.ya rfl rfl rfl hst.ctx (Y.sm underlying9 rfl rfl (by omega))<|hst.z rfl (Y.idx1 underlying172 sizeOf5 rfl rfl (by omega))<|Drw.z rfl rfl rfl rfl (X.storeV hst 0 (bv _) sizeOf5 rfl rfl rfl rfl (by simp only [bvs_length, List.length_set, put2_length]; omega) (bvs_set _ _ _) rfl fun w9_12 hst => ?_); refine Drw.zy rfl rfl rfl rfl hst.ctx (Y.idx1 underlying172 sizeOf5 rfl rfl (by omega))<|Drw.z rfl rfl rfl rfl (X.storeV hst 0 (bv _) sizeOf5 rfl rfl rfl rfl (by simp only [bvs_length, List.length_set, put2_length]; omega) (bvs_set _ _ _) rfl fun w9_14 hst => ?_); refine Drw.done<|W.seq rfl<|W.drawn rfl (by kernel_rfl) (Ctx _ _ (_) (_)) [12, 13, 14] (.op 0 0 (.op 1 0 (.op 2 0 (.op 3 2 (.op 4 2 (.op 5 2 (.op 6 0 (.op 7 0 (.op 8 0 (.op 9 2 (.op 10 2 (.op 11 0 (.op 12 1 (.op 13 1 (.op 14 1 .nil))))))))))))))) rfl (by kernel_rfl) hst.drew.ctx<|?_; replace hst := hst.drew; generalize World.drew _ = wd at hst ⊢; refine hst.z rfl (Y.moveS rfl)<|hst.z rfl (Y.moveI rfl)<|hst.z rfl (Y.subI rfl rfl (by omega))<|Drw.ya rfl rfl rfl hst.ctx (Y.moveS rfl)<|Drw.ya rfl rfl rfl hst.ctx (Y.moveI rfl)<|Drw.ya rfl rfl rfl hst.ctx (Y.subI rfl rfl (by omega))<|hst.z rfl (Y.moveI rfl)<|hst.z rfl (Y.add32 rfl rfl (by omega))<|hst.z rfl (Y.sm underlying9 rfl rfl (by omega))<|Drw.ya rfl rfl rfl hst.ctx (Y.moveI rfl)<|Drw.ya rfl rfl rfl hst.ctx (Y.sm underlying9 rfl rfl (by omega))<|hst.z rfl (Y.idx1 underlying172 sizeOf5 rfl rfl (by omega))<|Drw.z rfl rfl rfl rfl (X.storeV hst 0 (bv _) sizeOf5 rfl rfl rfl rfl (by simp only [bvs_length, List.length_set, put2_length]; omega) (bvs_set _ _ _) rfl fun w10_12 hst => ?_); refine Drw.zy rfl rfl rfl rfl hst.ctx (Y.idx1 underlying172 sizeOf5 rfl rfl (by omega))<|Drw.z rfl rfl rfl rfl (X.storeV hst 0 (bv _) sizeOf5 rfl rfl rfl rfl (by simp only [bvs_length, List.length_set, put2_length]; omega) (bvs_set _ _ _) rfl fun w10_14 hst => ?_); refine Drw.done<|W.region rfl<|hst.y rfl (Y.moveI rfl)<|hst.y rfl (Y.subI rfl rfl (by omega))<|hst.y rfl (Y.assignI rfl)<|Ops.done rfl<|?_; refine ⟨rnd8 s, ⟨?_, rfl, trivial⟩, ⟨rfl, trivial⟩, ⟨⟨f', ⟨by rw [← e8]; exact hl, by rw [rnd8_length]; exact hsl⟩, by dsimp only [rnd8]; omega, by dsimp only [rnd8]; omega, by dsimp only [rnd8]; omega, by dsimp only [rnd8]; omega⟩, hst⟩, by dsimp only [rnd8]; omega⟩; exact congrArg (Value.int .i64) (show (s.n : Int) - 8 = ((s.n - 8 : Nat) : Int) by omega)
end Go.Proofs.YtaanjifekgfemaaGreat.Cl
end
section
namespace Go.Proofs.YtaanjifekgfemaaGreat.K
open Tryz
open Go.RowKit
section
variable {P : Program} {n : Fr} {c : Code} {Q : Post} {ρ : Env} {w0 w : World} {F0 : List Nat} {L G : List Res} {S : World → Prop} {ty t t' : TypeId} {x y z : Operand}
theorem Y.neg64 {m : Int} (hx : ev ρ x = .int .u64 m) : Y P S ρ (.unOp .neg t x) ty (.int .u64 ((- m) % 18446744073709551616)) := fun w _ o ho _ => by
  have : IntKind.u64.wrap (0 - m) = (- m) % 18446744073709551616 := by rw [IntKind.wrap_u64]; congr 1; omega
  simp [execOp, ho, hx, Op.unary, Op.intArith]; simpa using this
theorem Y.conv64 {m : Int} (ht : P.underlying t' = some (.int .u64)) {d : TypeDesc} (hs : P.underlying t = some d) (hx : ev ρ x = .int .i64 m) : Y P S ρ (.convert t t' x) ty (.int .u64 (m % 18446744073709551616)) := by
  have h := Y.conv (S := S) (ty := ty) ht hs hx; rwa [IntKind.wrap_u64] at h
theorem Y.sliceA1 {e : TypeId} {len : Nat} (ht : P.underlying t = some (.array len e)) (hs : ∀ w, (sizeOf e).run P w = .ok 1 w) {b : Nat} (hx : ev ρ x = .pointer (some ⟨b, 0, none⟩)) (hy : ev ρ y = .int .i64 1) {ki : IntKind} {h : Int} (hz : ev ρ z = .int ki h) {m : Nat} (hm : h = 1 + (m : Int)) (hb : 1 + m ≤ len) (h1 : 1 < len) :
    Y P S ρ (.slice t x (some y) (some z) none) ty (.slice (some ⟨b, 1, none⟩) m (len - 1)) := fun w _ o ho _ => by
  subst hm; have hl : P.arrayLen t = len := by simp [Program.arrayLen, ht]
  have he : P.elem t = e := by simp [Program.elem, ht]
  have h := run_sliceAt_array_lh (P := P) w t ⟨b, 0, none⟩ (by rw [hl, he]; exact ht) .i64 ki 1 (1 + (m : Int)) (by omega) (by omega) (by rw [hl]; omega); rw [hl, he, hs] at h
  have e2 : slicedAt ⟨b, 0, none⟩ (1 : Int).toNat (1 + (m : Int)).toNat len 1 = .slice (some ⟨b, 1, none⟩) m (len - 1) := by
    unfold slicedAt; rw [show (1 : Int).toNat = 1 from rfl, if_neg (by omega), show (1 + (m : Int)).toNat - 1 = m by omega, add_lit']
  rw [Result.andThen_ok, e2] at h; simp [execOp, ho, hx, hy, hz, h]
theorem Y.sliceA0 {e : TypeId} {len : Nat} (ht : P.underlying t = some (.array len e)) (hs : ∀ w, (sizeOf e).run P w = .ok 1 w) {b : Nat} (hx : ev ρ x = .pointer (some ⟨b, 0, none⟩)) {ki : IntKind} {h : Int} (hz : ev ρ z = .int ki h) {m : Nat} (hm : h = (m : Int)) (hb : m ≤ len) (h1 : 1 < len) :
    Y P S ρ (.slice t x none (some z) none) ty (.slice (some ⟨b, 0, none⟩) m len) := fun w _ o ho _ => by
  subst hm; have hl : P.arrayLen t = len := by simp [Program.arrayLen, ht]
  have he : P.elem t = e := by simp [Program.elem, ht]
  have h := run_sliceAt_array_h (P := P) w t ⟨b, 0, none⟩ (by rw [hl, he]; exact ht) ki (m : Int) (by omega) (by rw [hl]; omega); rw [hl, he, hs] at h
  have e2 : slicedAt ⟨b, 0, none⟩ 0 (m : Int).toNat len 1 = .slice (some ⟨b, 0, none⟩) m len := by
    unfold slicedAt; rw [if_neg (by omega), add_lit']; simp
  rw [Result.andThen_ok, e2] at h; simp [execOp, ho, hx, hz, h]
theorem Rds.part (j : Nat) {b : Nat} {cs xs : List Value} {e : TypeId} (h : L[j]? = some (cellsR b cs e)) {off k cp : Nat} (hk : k ≤ cp) (hx : ∀ i, i < xs.length → cs[off + i]? = xs[i]?) : Rds L G (.slice (some ⟨b, off, none⟩) k cp) k xs :=
  ⟨cellsR b cs e, .inl (List.mem_of_getElem? h), fun w hw => ⟨_, _, rfl, hk, fun _ => ⟨_, rfl, fun i hi => by
    rw [add_lit', cellsR_cell hw]; exact hx i hi⟩⟩⟩
theorem Rds.partB (j : Nat) {b : Nat} {l : List UInt8} {e : TypeId} (h : L[j]? = some (cellsR b (bvs l) e)) {off k cp : Nat} (hk : k ≤ cp) (hl : off + k ≤ l.length) : Rds L G (.slice (some ⟨b, off, none⟩) k cp) k (bvs ((l.drop off).take k)) :=
  Rds.part j h hk fun i hi => by
    unfold bvs at hi ⊢; rw [List.length_map, List.length_take, List.length_drop] at hi; rw [List.getElem?_map, List.getElem?_map, List.getElem?_take, if_pos (by omega), List.getElem?_drop]
def powR (tbl : List Int) : Res := slR (.slice (some ⟨2, 0, none⟩) 20 20) 20 (tbl.map fun x => .int .u64 x)
theorem Y.loadPow {tbl : List Int} (hag : ∀ w, (isAgg t).run P w = .ok false w) (hm : powR tbl ∈ G) {i : Nat} (hx : ev ρ x = .pointer (some ⟨2, i, none⟩)) (hi : i < tbl.length) : Y P (Ctx w0 F0 L G) ρ (.load t x) ty (.int .u64 (tbl.getD i 0)) :=
  Y.loadAt hx fun w hS => run_load_cell hag (by
    have hr : Rds L G (.slice (some ⟨2, 0, none⟩) 20 20) 20 (tbl.map fun x => .int .u64 x) := Rds.ofG hm; obtain ⟨A, cap, he, _, hA⟩ := hS.sl hr; injection he with he; subst he; obtain ⟨ad, had, hc⟩ := hA (by intro h; rw [List.map_eq_nil_iff] at h; subst h; simp at hi); injection had with had; subst had; have := hc i (by simpa using hi); rw [add_lit', Nat.zero_add] at this; rw [this]
    simp [hi])
theorem Y.sliceData {ts : Array TypeId} {b m cp : Nat} (hx : ev ρ x = .slice (some ⟨b, 0, none⟩) m cp) (hc : cp ≠ 0) : Y P S ρ (.call { callee := .builtin .unsafeSliceData, args := #[x], argTypes := ts }) ty (.pointer (some ⟨b, 0, none⟩)) := fun w _ o ho hty => by
  have h := Lib.run_unsafeSliceData_row (P := P) (w := w) ts ty ⟨b, 0, none⟩ m cp hc; simp [execOp, ho, resolve, invoke, builtin, hx, hty, h]
theorem Y.sliceDataN {ts : Array TypeId} {m cp : Nat} (hx : ev ρ x = .slice none m cp) : Y P S ρ (.call { callee := .builtin .unsafeSliceData, args := #[x], argTypes := ts }) ty (.pointer none) := fun w _ o ho hty => by
  have h := Lib.run_unsafeSliceData_nil (P := P) (w := w) ts ty m cp; simp [execOp, ho, resolve, invoke, builtin, hx, hty, h]
theorem X.unsafeStrN (hst : St w0 F0 w L G) {pt it : TypeId} {p : Option Addr} (hx : ev ρ x = .pointer p) (hy : ev ρ y = .int .i64 0) {K : Value → World → Prop} (k : ∀ w', St w0 F0 w' L G → K (.string ⟨#[]⟩) w') : X P ρ w (.call { callee := .builtin .unsafeString, args := #[x, y], argTypes := #[pt, it] }) ty K := by
  intro a ops Q o ho hty ha hw; have h := Lib.run_unsafeString_none (P := P) (w := w) pt it ty p; refine wpl hw (v := .string ⟨#[]⟩) (w' := w) ?_ ⟨_, rfl, k w hst⟩; rw [ha]; simp only [execOp, ho]; simp only [resolve, invoke, builtin, hx, hy, hty]; simp [builtin, hx, hy, h]; rfl
theorem X.unsafeStr (hst : St w0 F0 w L G) (j : Nat) {pt it e : TypeId} (hp : P.underlying pt = some (.pointer e)) (hc : P.cellsOf e = 1) {b m cp : Nat} {l : List UInt8} (hx : ev ρ x = .pointer (some ⟨b, 0, none⟩)) (hy : ev ρ y = .int .i64 (m : Int)) (hL : L[j]? = some (rowR (.slice (some ⟨b, 0, none⟩) m cp) e 1 m (bvs l))) (h0 : 0 < m) (hb : m ≤ 140737488355328) {K : Value → World → Prop}
    (k : ∀ w', St w0 F0 w' (L.eraseIdx j) G → K (.string (str l)) w') : X P ρ w (.call { callee := .builtin .unsafeString, args := #[x, y], argTypes := #[pt, it] }) ty K := by
  obtain ⟨cur, hg, hm, hcp, hl, hxs, hxl⟩ := row_cells (hst.res _ (List.mem_of_getElem? hL)); have hll : l.length = m := by rw [bvs_length, Nat.mul_one] at hxl; exact hxl
  intro a ops Q o ho hty ha hw; have hsh : w.shape? b = some (e, cur.length) := by simp [World.shape?, hg]
  have h := Lib.run_unsafeString_row (P := P) (w := w) pt it ty e hp hc b cur.length hsh l (by intro h; subst h; simp at hll; omega) (by omega) (by omega) (by
    intro j' u hu; rw [add_lit', Nat.zero_add]; have hj : j' < m := by rw [← hll]; exact (List.getElem?_eq_some_iff.1 hu).1
    have h3 : (bvs l)[j']? = some (bv u) := by unfold bvs; rw [List.getElem?_map, hu]; rfl
    rw [← hxs, List.getElem?_take, if_pos (by omega)] at h3
    simp [World.cell?, hg, h3, bv])
  rw [hll] at h; refine wpl hw (v := .string (str l)) (w' := w.freeze ⟨b, 0, none⟩ m) ?_ ⟨_, rfl, k _ ?_⟩
  · rw [ha]; simp only [execOp, ho]; simp only [resolve, invoke, builtin, hx, hy, hty]; simp [builtin, hx, hy, h]; rfl
  · have hpm := hst.perm (perm_at hL); refine St.step (w' := w.freeze ⟨b, 0, none⟩ m) (L1 := [rowR (.slice (some ⟨b, 0, none⟩) m cp) e 1 m (bvs l)]) (L2 := []) hpm ?_ ?_ ?_ ?_ ?_ (by simp) (by simp) (by simp)
    · unfold World.freeze; split <;> rfl
    · unfold World.freeze; split <;> rfl
    · unfold World.freeze; split <;> rfl
    · unfold World.freeze; split <;> simp
    · intro b' hb' hn; have hne : b ≠ b' := by intro e; subst e; simp [blockOf] at hn
      unfold World.freeze; split
      · rfl
      · simp only [Array.getElem?_modify]; rw [if_neg hne]
end
end Go.Proofs.YtaanjifekgfemaaGreat.K
end
section
namespace Go.Proofs.YtaanjifekgfemaaGreat.Cl
open Tryz
open Go.RowKit Go.Proofs.YtaanjifekgfemaaGreat.K Go.Proofs.YtaanjifekgfemaaGreat.W
attribute [local irreducible] bound clip adds sub neg mag mulp mul maxs
theorem cf98 : CF 98 := fun _ _ => by simp [go_sem]
theorem cf201 : CF 201 := fun _ _ => by simp [go_sem]
theorem cf203 : CF 203 := fun _ _ => by simp [go_sem]
theorem cf204 : CF 204 := fun _ _ => by simp [go_sem]
theorem cf205 : CF 205 := fun _ _ => by simp [go_sem]
theorem cf206 : CF 206 := fun _ _ => by simp [go_sem]
theorem cf208 : CF 208 := fun _ _ => by simp [go_sem]
theorem cf209 : CF 209 := fun _ _ => by simp [go_sem]
open Go (Lib.bitLen Lib.l10 Lib.decDigits)
theorem len64_any (x : Int) (h0 : 0 ≤ x) (h1 : x ≤ 18446744073709551615) (w0 w : World) (F0 : List Nat) (L G : List Res) (hst : St w0 F0 w L G) : Calls Tryz.prog 98 #[.int .u64 x] w fun e w' => e = .returned (.int .i64 ((Lib.bitLen x.toNat : Nat) : Int)) ∧ St w0 F0 w' L G :=
  (Tryz.bits_Len64 x w h0 h1).mono fun e w' ⟨h1, h2⟩ => ⟨h1, by rw [h2]; exact hst⟩
theorem l10_any (x : Nat) (h : x ≤ 64) (w0 w : World) (F0 : List Nat) (L G : List Res) (hst : St w0 F0 w L G) : Calls Tryz.prog 208 #[.int .i64 (x : Int)] w fun e w' => e = .returned (.int .i64 ((Lib.l10 x : Nat) : Int)) ∧ St w0 F0 w' L G :=
  (Tryz.internal_strconv_log10Pow2 x h w).mono fun e w' ⟨h1, h2⟩ => ⟨h1, by rw [h2]; exact hst⟩
theorem bool2_any (b : Bool) (w0 w : World) (F0 : List Nat) (L G : List Res) (hst : St w0 F0 w L G) : Calls Tryz.prog 209 #[.bool b] w fun e w' => e = .returned (.int .i64 (match b with | true => 1 | false => 0)) ∧ St w0 F0 w' L G :=
  (Tryz.internal_strconv_bool2_int b w).mono fun e w' ⟨h1, h2⟩ => ⟨by rw [h1]; cases b <;> rfl, by rw [h2]; exact hst⟩
theorem small_any (i : Nat) (h : i < 100) (w0 w : World) (F0 : List Nat) (L G : List Res) (hst : St w0 F0 w L G) : Calls Tryz.prog 204 #[.int .i64 (i : Int)] w fun e w' => e = .returned (.string (str (Lib.decDigits i))) ∧ St w0 F0 w' L G :=
  (Tryz.internal_strconv_small i h w).mono fun e w' ⟨h1, h2⟩ => ⟨h1, by rw [h2]; exact hst⟩
def nd0 (u : Int) : Nat := Lib.l10 (Lib.bitLen u.toNat)
def nDig (tbl : List Int) (u : Int) : Nat := nd0 u + if u ≥ tbl.getD (nd0 u) 0 then 1 else 0
theorem bitLen64 {u : Int} (h : 0 ≤ u ∧ u ≤ 18446744073709551615) : Lib.bitLen u.toNat ≤ 64 := by
  have h2 : (2 : Nat) ^ 64 = 18446744073709551616 := by decide
  exact Lib.bitLen_le _ 64 (Nat.le_refl _) (by omega)
theorem l10_le : ∀ L : Fin 65, Lib.l10 L.val ≤ 19 := by decide +kernel
theorem nd0_le {u : Int} (h : 0 ≤ u ∧ u ≤ 18446744073709551615) : nd0 u ≤ 19 := l10_le ⟨_, Nat.lt_succ_of_le (bitLen64 h)⟩
theorem nDig_le {tbl : List Int} {u : Int} (h : 0 ≤ u ∧ u ≤ 18446744073709551615) : nDig tbl u ≤ 20 := by
  have := nd0_le h; unfold nDig; split <;> omega
def z24 : List UInt8 := List.replicate 24 0
def itoaL (tbl : List Int) (n : Int) : List UInt8 :=
  if 0 ≤ n ∧ n < 100 then Lib.decDigits n.toNat
  else if n < 0 then (((fmt10 z24 (nDig tbl (-n)) (-n)).set 0 45).drop 0).take (1 + nDig tbl (-n))
  else ((fmt10 z24 (nDig tbl n) n).drop 1).take (nDig tbl n)
theorem dec_le : ∀ i : Fin 100, (Lib.decDigits i.val).length ≤ 2 := by decide +kernel
theorem itoaL_le (tbl : List Int) {n : Int} (h : In64 n) : (itoaL tbl n).length ≤ 24 := by
  unfold itoaL; split
  · rename_i h1; exact Nat.le_trans (dec_le ⟨n.toNat, by omega⟩) (by decide)
  · split
    · rw [List.length_take, List.length_drop, List.length_set, fmt10_length]; simp [z24]; omega
    · rw [List.length_take, List.length_drop, fmt10_length]; simp [z24]; omega
theorem nDig_any (tbl : List Int) (htl : tbl.length = 20) (u : Int) (hu : 0 ≤ u ∧ u ≤ 18446744073709551615) (w0 w : World) (F0 : List Nat) (L G : List Res) (hst : St w0 F0 w L G) (hpw : powR tbl ∈ G) :
    Calls Tryz.prog 205 #[.int .u64 u] w fun e w' => e = .returned (.int .i64 ((nDig tbl u : Nat) : Int)) ∧ St w0 F0 w' L G := by
  have h64 := bitLen64 hu; have h19 := nd0_le hu; refine W.func func205 rfl ntmps205 rfl<|W.sr rfl<|hst.y rfl (Y.assignI rfl)<|Ops.ds rfl rfl<|hst.y rfl (Y.moveI rfl)<|Ops.ww rfl (X.ret cf98 (len64_any u hu.1 hu.2 _ _ _ _ _ hst) rfl fun w5 hst => Ops.ww rfl (X.ret cf208 (l10_any _ h64 _ _ _ _ _ hst) rfl fun w6 hst => hst.y rfl (Y.assignV (v := .int .i64 ((nd0 u : Nat) : Int)) rfl)<|Ops.ds rfl rfl<|hst.y rfl (Y.moveI rfl)<|hst.y rfl (Y.moveI rfl)<|hst.y rfl (Y.moveI rfl)<|hst.y rfl (Y.indexAddrA underlying321 sizeOf192 (b := 2) (j := 0) rfl rfl (by omega))<|hst.y rfl (Y.loadPow isAgg192 hpw rfl (by omega))<|hst.yb rfl (Y.geq rfl rfl) (fun b12 hb12 => Ops.ww rfl (X.ret cf209 (bool2_any b12 _ _ _ _ _ hst) rfl fun w13 hst => hst.y rfl (Y.addI rfl rfl (by cases b12 <;> dsimp only <;> omega))<|?_)))); refine hst.y rfl (Y.assignI rfl)<|Ops.done rfl<|W.ret rfl<|⟨_, Rslt.one results205 rfl, ?_⟩; have hi : 0 + ((nd0 u : Nat) : Int).toNat * 1 = nd0 u := by omega
  rw [hi] at hb12; refine ⟨congrArg (fun z => Ending.returned (.int .i64 z)) ?_, hst⟩; unfold nDig
  by_cases hc : u ≥ tbl.getD (nd0 u) 0
  · rw [decide_eq_true hc] at hb12; subst hb12; rw [if_pos hc]; rfl
  · rw [decide_eq_false hc] at hb12; subst hb12; rw [if_neg hc]; rfl
set_option maxHeartbeats 1000000 in
theorem fi_small (tbl : List Int) (htl : tbl.length = 20) (i : Nat) (hi : i < 100) (w0 w : World) (F0 : List Nat) (L G : List Res) (hst : St w0 F0 w L G) (hpw : powR tbl ∈ G) :
    Calls Tryz.prog 203 #[.int .i64 (i : Int), .int .i64 10] w fun e w' => e = .returned (.string (str (Lib.decDigits i))) ∧ St w0 F0 w' L G := by
  refine W.func func203 rfl ntmps203 rfl<|W.sr rfl<|hst.y rfl (Y.assignT rfl)<|Ops.done rfl<|W.seq rfl<|W.sr rfl<|hst.y rfl (Y.moveI rfl)<|hst.yb rfl (Y.eql rfl rfl) (fun b11 hb11 => Ops.done rfl<|?_); cases b11
  · replace hb11 := dF hb11; exact absurd rfl hb11
  · replace hb11 := dT hb11; refine W.condT rfl rfl<|W.seq rfl<|W.sr rfl<|hst.y rfl (Y.moveI rfl)<|hst.yb rfl (Y.leq rfl rfl) (fun b13 hb13 => hst.y rfl (Y.moveB rfl)<|?_); cases b13
    · replace hb13 := dF hb13; exfalso; omega
    · replace hb13 := dT hb13; refine hst.y rfl (Y.moveI rfl)<|hst.yb rfl (Y.lss rfl rfl) (fun b16 hb16 => hst.y rfl (Y.pB rfl rfl)<|Ops.done rfl<|?_); cases b16
      · replace hb16 := dF hb16; exfalso; omega
      · replace hb16 := dT hb16; refine W.condT rfl rfl<|W.sr rfl<|hst.y rfl (Y.moveI rfl)<|Ops.ww rfl (X.ret cf204 (small_any i hi _ _ _ _ _ hst) rfl fun w19 hst => hst.y rfl (Y.assignT rfl)<|Ops.done rfl<|W.ret rfl<|⟨_, Rslt.one results203 rfl, ?_⟩); exact ⟨rfl, hst⟩
set_option maxHeartbeats 1000000 in
theorem fi_neg (tbl : List Int) (htl : tbl.length = 20) (n : Int) (hn : In64 n) (h0 : n < 0) (w0 w : World) (F0 : List Nat) (L G : List Res) (hst : St w0 F0 w L G) (hpw : powR tbl ∈ G) :
    Calls Tryz.prog 203 #[.int .i64 n, .int .i64 10] w fun e w' => e = .returned (.string (str ((((fmt10 z24 (nDig tbl (-n)) (-n)).set 0 45).drop 0).take (1 + nDig tbl (-n))))) ∧ St w0 F0 w' L G := by
  unfold In64 at hn; have hu : 0 ≤ -n ∧ -n ≤ 18446744073709551615 := by omega
  have h20 := nDig_le (tbl := tbl) hu; refine W.func func203 rfl ntmps203 rfl<|W.sr rfl<|hst.y rfl (Y.assignT rfl)<|Ops.done rfl<|W.seq rfl<|W.sr rfl<|hst.y rfl (Y.moveI rfl)<|hst.yb rfl (Y.eql rfl rfl) (fun b11 hb11 => Ops.done rfl<|?_); cases b11
  · replace hb11 := dF hb11; exact absurd rfl hb11
  · replace hb11 := dT hb11; refine W.condT rfl rfl<|W.seq rfl<|W.sr rfl<|hst.y rfl (Y.moveI rfl)<|hst.yb rfl (Y.leq rfl rfl) (fun b13 hb13 => hst.y rfl (Y.moveB rfl)<|?_); cases b13
    · replace hb13 := dF hb13; refine Ops.nn rfl<|Ops.nn rfl<|hst.y rfl (Y.pB rfl rfl)<|Ops.done rfl<|W.condF rfl rfl<|W.skip rfl<|W.sr rfl<|Ops.ww rfl (X.allocA hst zeroValue317 fun p5 w5 hst => ?_); replace hst : St w0 F0 w5 (cellsR p5 (bvs (z24)) 317 :: L) G := hst; refine Ops.ds rfl rfl<|hst.y rfl (Y.moveI rfl)<|hst.y rfl (Y.conv64 underlying192 underlying2 rfl)<|hst.y rfl (Y.assignI rfl)<|Ops.done rfl<|W.seq rfl<|W.sr rfl<|hst.y rfl (Y.moveI rfl)<|hst.yb rfl (Y.lss rfl rfl) (fun b23 hb23 => Ops.done rfl<|?_); refine W.cut [(0, .int _ _), (5, .pointer _)] (fun _ : Unit => [(6, .int .u64 (-n))]) (fun _ w => St w0 F0 w (cellsR p5 (bvs (z24)) 317 :: L) G) ⟨rfl, rfl, trivial⟩ ?_ ?_
      rotate_left
      · clear hst; rintro _ j w6 hst; refine W.sr rfl<|hst.y rfl (Y.moveI rfl)<|Ops.ww rfl (X.ret cf205 (nDig_any tbl htl (-n) hu _ _ _ _ _ hst hpw) rfl fun w27 hst => hst.y rfl (Y.assignI rfl)<|Ops.ds rfl rfl<|hst.y rfl (Y.moveI rfl)<|hst.y rfl (Y.addI rfl rfl (by omega))<|hst.y rfl (Y.sliceA1 underlying317 sizeOf5 rfl rfl rfl (m := nDig tbl (-n)) rfl (by omega) (by decide))<|?_); refine hst.y rfl (Y.moveI rfl)<|Ops.ww rfl (X.ret cf206 (fmt_any p5 317 z24 rfl (nDig tbl (-n)) (by omega) _ (-n) hu _ _ _ _ _ hst) rfl fun w32 hst => Ops.done rfl<|W.seq rfl<|W.sr rfl<|hst.y rfl (Y.moveI rfl)<|hst.yb rfl (Y.lss rfl rfl) (fun b34 hb34 => Ops.done rfl<|?_)); cases b34
        · replace hb34 := dF hb34; exfalso; omega
        · replace hb34 := dT hb34; refine W.condT rfl rfl<|W.sr rfl<|hst.y rfl (Y.indexAddrA underlying317 sizeOf5 rfl rfl (by omega))<|Ops.ww rfl (X.storeV hst 0 (bv 45) sizeOf5 rfl rfl rfl rfl (by rw [bvs_length, fmt10_length]; decide) (bvs_set _ _ _) rfl fun w11_1 hst => ?_); refine Ops.ds rfl rfl<|hst.y rfl (Y.moveI rfl)<|hst.y rfl (Y.addI rfl rfl (by omega))<|hst.y rfl (Y.sliceA0 underlying317 sizeOf5 rfl rfl (m := 1 + nDig tbl (-n)) (by omega) (by omega) (by decide))<|?_; refine hst.y rfl (Y.str underlying172 underlying5 underlying9 rfl (Rds.partB (l := (fmt10 z24 (nDig tbl (-n)) (-n)).set 0 45) 0 rfl (by omega) (by rw [List.length_set, fmt10_length]; simp [z24]; omega)) (by rw [List.length_take, List.length_drop, List.length_set, fmt10_length]; simp [z24]; omega)) ?_; refine hst.y rfl (Y.assignT rfl)<|Ops.done rfl<|W.ret rfl<|⟨_, Rslt.one results203 rfl, ?_⟩; exact ⟨rfl, (hst.dr 1)⟩
      cases b23
      · replace hb23 := dF hb23; exfalso; omega
      · replace hb23 := dT hb23; refine W.condT rfl rfl<|W.region rfl<|hst.y rfl (Y.moveI rfl)<|hst.y rfl (Y.neg64 rfl)<|hst.y rfl (Y.assignI rfl)<|Ops.done rfl<|?_; exact ⟨(), ⟨congrArg (Value.int .u64) (show (- (n % 18446744073709551616)) % 18446744073709551616 = (-n) by omega), trivial⟩, ⟨rfl, rfl, trivial⟩, hst⟩
    · replace hb13 := dT hb13; exfalso; omega
set_option maxHeartbeats 1000000 in
theorem fi_big (tbl : List Int) (htl : tbl.length = 20) (n : Int) (hn : In64 n) (h0 : 100 ≤ n) (w0 w : World) (F0 : List Nat) (L G : List Res) (hst : St w0 F0 w L G) (hpw : powR tbl ∈ G) :
    Calls Tryz.prog 203 #[.int .i64 n, .int .i64 10] w fun e w' => e = .returned (.string (str (((fmt10 z24 (nDig tbl n) n).drop 1).take (nDig tbl n)))) ∧ St w0 F0 w' L G := by
  unfold In64 at hn; have hu : 0 ≤ n ∧ n ≤ 18446744073709551615 := by omega
  have h20 := nDig_le (tbl := tbl) hu; refine W.func func203 rfl ntmps203 rfl<|W.sr rfl<|hst.y rfl (Y.assignT rfl)<|Ops.done rfl<|W.seq rfl<|W.sr rfl<|hst.y rfl (Y.moveI rfl)<|hst.yb rfl (Y.eql rfl rfl) (fun b11 hb11 => Ops.done rfl<|?_); cases b11
  · replace hb11 := dF hb11; exact absurd rfl hb11
  · replace hb11 := dT hb11; refine W.condT rfl rfl<|W.seq rfl<|W.sr rfl<|hst.y rfl (Y.moveI rfl)<|hst.yb rfl (Y.leq rfl rfl) (fun b13 hb13 => hst.y rfl (Y.moveB rfl)<|?_); cases b13
    · replace hb13 := dF hb13; exfalso; omega
    · replace hb13 := dT hb13; refine hst.y rfl (Y.moveI rfl)<|hst.yb rfl (Y.lss rfl rfl) (fun b16 hb16 => hst.y rfl (Y.pB rfl rfl)<|Ops.done rfl<|?_); cases b16
      · replace hb16 := dF hb16; refine W.condF rfl rfl<|W.skip rfl<|W.sr rfl<|Ops.ww rfl (X.allocA hst zeroValue317 fun p5 w5 hst => ?_); replace hst : St w0 F0 w5 (cellsR p5 (bvs (z24)) 317 :: L) G := hst; refine Ops.ds rfl rfl<|hst.y rfl (Y.moveI rfl)<|hst.y rfl (Y.conv64 underlying192 underlying2 rfl)<|hst.y rfl (Y.assignI rfl)<|Ops.done rfl<|W.seq rfl<|W.sr rfl<|hst.y rfl (Y.moveI rfl)<|hst.yb rfl (Y.lss rfl rfl) (fun b23 hb23 => Ops.done rfl<|?_); refine W.cut [(0, .int _ _), (5, .pointer _)] (fun _ : Unit => [(6, .int .u64 n)]) (fun _ w => St w0 F0 w (cellsR p5 (bvs (z24)) 317 :: L) G) ⟨rfl, rfl, trivial⟩ ?_ ?_
        rotate_left
        · clear hst; rintro _ j w6 hst; refine W.sr rfl<|hst.y rfl (Y.moveI rfl)<|Ops.ww rfl (X.ret cf205 (nDig_any tbl htl n hu _ _ _ _ _ hst hpw) rfl fun w27 hst => hst.y rfl (Y.assignI rfl)<|Ops.ds rfl rfl<|hst.y rfl (Y.moveI rfl)<|hst.y rfl (Y.addI rfl rfl (by omega))<|hst.y rfl (Y.sliceA1 underlying317 sizeOf5 rfl rfl rfl (m := nDig tbl n) rfl (by omega) (by decide))<|?_); refine hst.y rfl (Y.moveI rfl)<|Ops.ww rfl (X.ret cf206 (fmt_any p5 317 z24 rfl (nDig tbl n) (by omega) _ n hu _ _ _ _ _ hst) rfl fun w32 hst => Ops.done rfl<|W.seq rfl<|W.sr rfl<|hst.y rfl (Y.moveI rfl)<|hst.yb rfl (Y.lss rfl rfl) (fun b34 hb34 => Ops.done rfl<|?_)); cases b34
          · replace hb34 := dF hb34; refine W.condF rfl rfl<|W.skip rfl<|W.sr rfl<|hst.y rfl (Y.moveI rfl)<|hst.y rfl (Y.addI rfl rfl (by omega))<|hst.y rfl (Y.sliceA1 underlying317 sizeOf5 rfl rfl rfl (m := nDig tbl n) rfl (by omega) (by decide))<|?_; refine hst.y rfl (Y.str underlying172 underlying5 underlying9 rfl (Rds.partB (l := fmt10 z24 (nDig tbl n) n) 0 rfl (by omega) (by rw [fmt10_length]; simp [z24]; omega)) (by rw [List.length_take, List.length_drop, fmt10_length]; simp [z24]; omega)) ?_; refine hst.y rfl (Y.assignT rfl)<|Ops.done rfl<|W.ret rfl<|⟨_, Rslt.one results203 rfl, ?_⟩; exact ⟨rfl, (hst.dr 1)⟩
          · replace hb34 := dT hb34; exfalso; omega
        cases b23
        · replace hb23 := dF hb23; refine W.condF rfl rfl<|W.skip rfl<|?_; exact ⟨(), ⟨congrArg (Value.int .u64) (show n % 18446744073709551616 = n by omega), trivial⟩, ⟨rfl, rfl, trivial⟩, hst⟩
        · replace hb23 := dT hb23; exfalso; omega
      · replace hb16 := dT hb16; exfalso; omega
set_option maxHeartbeats 1000000 in
theorem fi_any (tbl : List Int) (htl : tbl.length = 20) (n : Int) (hn : In64 n) (w0 w : World) (F0 : List Nat) (L G : List Res) (hst : St w0 F0 w L G) (hpw : powR tbl ∈ G) :
    Calls Tryz.prog 203 #[.int .i64 n, .int .i64 10] w fun e w' => e = .returned (.string (str (itoaL tbl n))) ∧ St w0 F0 w' L G := by
  by_cases h1 : 0 ≤ n ∧ n < 100
  · have e : itoaL tbl n = Lib.decDigits n.toNat := if_pos h1; have := fi_small tbl htl n.toNat (by omega) w0 w F0 L G hst hpw; rw [show ((n.toNat : Nat) : Int) = n by omega] at this; rw [e]; exact this
  · by_cases h2 : n < 0
    · have e : itoaL tbl n = _ := (if_neg h1).trans (if_pos h2); rw [e]; exact fi_neg tbl htl n hn h2 w0 w F0 L G hst hpw
    · have e : itoaL tbl n = _ := (if_neg h1).trans (if_neg h2); rw [e]; exact fi_big tbl htl n hn (by omega) w0 w F0 L G hst hpw
theorem itoa0 (tbl : List Int) (htl : tbl.length = 20) (n : Int) (hn : In64 n) (w0 w : World) (F0 : List Nat) (L G : List Res) (hst : St w0 F0 w L G) (hpw : powR tbl ∈ G) :
    Calls Tryz.prog 201 #[.int .i64 n] w fun e w' => e = .returned (.string (str (itoaL tbl n))) ∧ St w0 F0 w' L G := by
  refine W.func func201 rfl ntmps201 rfl<|W.sr rfl<|hst.y rfl (Y.assignT rfl)<|Ops.ds rfl rfl<|hst.y rfl (Y.moveI rfl)<|Ops.ww rfl (X.ret cf203 (fi_any tbl htl n hn _ _ _ _ _ hst hpw) rfl fun w4 hst => hst.y rfl (Y.assignT rfl)<|Ops.done rfl<|W.ret rfl<|⟨_, Rslt.one results201 rfl, ?_⟩); exact ⟨rfl, hst⟩
theorem itoa_any (tbl : List Int) (htl : tbl.length = 20) (n : Int) (hn : In64 n) (w0 w : World) (F0 : List Nat) (L G : List Res) (hst : St w0 F0 w L G) (hpw : powR tbl ∈ G) :
    Calls Tryz.prog 195 #[.int .i64 n] w fun e w' => e = .returned (.string (str (itoaL tbl n))) ∧ St w0 F0 w' L G := by
  refine W.func func195 rfl ntmps195 rfl<|W.sr rfl<|hst.y rfl (Y.assignT rfl)<|Ops.ds rfl rfl<|hst.y rfl (Y.moveI rfl)<|Ops.ww rfl (X.ret cf201 (itoa0 tbl htl n hn _ _ _ _ _ hst hpw) rfl fun w4 hst => hst.y rfl (Y.assignT rfl)<|Ops.done rfl<|W.ret rfl<|⟨_, Rslt.one results195 rfl, ?_⟩); exact ⟨rfl, hst⟩
theorem cf194 : CF 194 := fun _ _ => by simp [go_sem]
theorem cf195 : CF 195 := fun _ _ => by simp [go_sem]
theorem cf196 : CF 196 := fun _ _ => by simp [go_sem]
theorem row_some {w : World} {A : Option Addr} {m cp : Nat} {e : TypeId} {xs : List Value} (h : (rowR (.slice A m cp) e 1 m xs).holds w) : (A = none ∧ m = 0 ∧ cp = 0 ∧ xs = []) ∨ ∃ gb, A = some ⟨gb, 0, none⟩ := by
  rcases h.2 with ⟨h1, h2⟩ | ⟨g, cap, cur, h1, _⟩
  · injection h1 with h1 h3 h4; refine .inl ⟨h1, h2, h4, List.eq_nil_of_length_eq_zero (by have := h.1; omega)⟩
  · injection h1 with h1 h3 h4; exact .inr ⟨g, h1⟩
theorem strCells_bvs (l : List UInt8) : Go.Lib.strCells (str l) = bvs l := rfl
theorem writeString_any (b : Nat) (a : Option Addr) (A : Option Addr) (m cp : Nat) (l : List UInt8) (ha : a = none ∨ a = some ⟨b, 0, none⟩) (l' : List UInt8) (h0 : 0 < l'.length) (h48 : m + l'.length ≤ 140737488355328) (w0 w : World) (F0 : List Nat) (L G : List Res) (hst : St w0 F0 w (cellsR b [.pointer a, .slice A m cp] 307 :: rowR (.slice A m cp) 5 1 m (bvs (l)) :: L) G) :
    Calls Tryz.prog 194 #[.pointer (some ⟨b, 0, none⟩), .string (str l')] w fun e w' => ∃ v A' c', e = .returned v ∧ St w0 F0 w' (cellsR b [.pointer (some ⟨b, 0, none⟩), .slice A' (m + l'.length) c'] 307 :: rowR (.slice A' (m + l'.length) c') 5 1 (m + l'.length) (bvs (l ++ l')) :: L) G := by
  rcases row_some (hst.res _ (.tail _ (.head _))) with ⟨rfl, rfl, rfl, hl⟩ | ⟨gb, rfl⟩
  · obtain rfl : l = [] := by unfold bvs at hl; rwa [List.map_eq_nil_iff] at hl
    refine (writeString_nil b a ha (str l') (by rw [str_sz]; exact h0) (by rw [str_sz]; omega) _ _ _ _ _ hst).mono ?_; rintro e w' ⟨A', c', h1, h2⟩; rw [strCells_bvs, str_sz] at h2; exact ⟨_, A', c', h1, by rw [Nat.zero_add]; exact h2⟩
  · refine (writeString_some b a ha gb m cp (bvs l) (str l') (by rw [str_sz]; exact h48) _ _ _ _ _ hst).mono ?_; rintro e w' ⟨A', c', h1, h2⟩; rw [strCells_bvs, str_sz] at h2; have e1 : bvs l ++ bvs l' = bvs (l ++ l') := by unfold bvs; rw [List.map_append]
    rw [e1] at h2; exact ⟨_, A', c', h1, h2⟩
theorem string_some (b : Nat) (a : Option Addr) (gb m cp : Nat) (l : List UInt8) (h0 : 0 < m) (hm : m ≤ cp) (hb : m ≤ 140737488355328) (w0 w : World) (F0 : List Nat) (L G : List Res) (hst : St w0 F0 w (cellsR b [.pointer a, .slice (some ⟨gb, 0, none⟩) m cp] 307 :: rowR (.slice (some ⟨gb, 0, none⟩) m cp) 5 1 m (bvs (l)) :: L) G) :
    Calls Tryz.prog 196 #[.pointer (some ⟨b, 0, none⟩)] w fun e w' => e = .returned (.string (str l)) ∧ St w0 F0 w' L G := by
  refine W.func func196 rfl ntmps196 rfl<|W.sr rfl<|hst.y rfl (Y.assignT rfl)<|Ops.done rfl<|W.seq rfl<|?_; replace hst := hst.up_1; refine hst.dw 1 [] (T0 [0,1,2,3,4,5,6,7,8,9] (.op 10 1 (.op 11 0 .nil))) rfl (by kernel_rfl) rfl (by kernel_rfl) fun wd hst => ?_; refine Drw.q rfl (hst.cx 1) (Y.moveP rfl)<|Drw.q rfl (hst.cx 1) (Y.nilCheck rfl)<|Drw.q rfl (hst.cx 1) (Y.fieldAddr fa307_1 rfl)<|Drw.q rfl (hst.cx 1) (Y.load 0 isAgg172 rfl rfl rfl)<|Drw.q rfl (hst.cx 1) (Y.sliceData rfl (by omega))<|Drw.q rfl (hst.cx 1) (Y.moveP rfl)<|Drw.q rfl (hst.cx 1) (Y.nilCheck rfl)<|Drw.q rfl (hst.cx 1) (Y.fieldAddr fa307_1 rfl)<|Drw.q rfl (hst.cx 1) (Y.load 0 isAgg172 rfl rfl rfl)<|Drw.q rfl (hst.cx 1) (Y.lenS underlying172 rfl)<|Drw.ww rfl (X.unsafeStr hst 0 underlying221 (by kernel_rfl) rfl rfl rfl h0 hb fun w13 hst => ⟨St.ctx hst, ?_⟩); refine hst.z rfl (Y.assignT rfl)<|Drw.done<|W.ret rfl<|⟨_, Rslt.one results196 rfl, ?_⟩; exact ⟨rfl, hst.dr 1⟩
theorem string_nil (b : Nat) (a : Option Addr) (w0 w : World) (F0 : List Nat) (L G : List Res) (hst : St w0 F0 w (cellsR b [.pointer a, .slice none 0 0] 307 :: L) G) :
    Calls Tryz.prog 196 #[.pointer (some ⟨b, 0, none⟩)] w fun e w' => e = .returned (.string ⟨#[]⟩) ∧ St w0 F0 w' L G := by
  refine W.func func196 rfl ntmps196 rfl<|W.sr rfl<|hst.y rfl (Y.assignT rfl)<|Ops.done rfl<|W.seq rfl<|W.drawn rfl (by kernel_rfl) (Ctx _ _ (_) (_)) [] (.op 0 0 (.op 1 0 (.op 2 0 (.op 3 0 (.op 4 0 (.op 5 0 (.op 6 0 (.op 7 0 (.op 8 0 (.op 9 0 (.op 10 1 (.op 11 0 .nil)))))))))))) rfl (by kernel_rfl) hst.drew.ctx<|?_; replace hst := hst.drew; generalize World.drew _ = wd at hst ⊢; refine hst.z rfl (Y.moveP rfl)<|hst.z rfl (Y.nilCheck rfl)<|hst.z rfl (Y.fieldAddr fa307_1 rfl)<|hst.z rfl (Y.load 0 isAgg172 rfl rfl rfl)<|hst.z rfl (Y.sliceDataN rfl)<|hst.z rfl (Y.moveP rfl)<|hst.z rfl (Y.nilCheck rfl)<|hst.z rfl (Y.fieldAddr fa307_1 rfl)<|hst.z rfl (Y.load 0 isAgg172 rfl rfl rfl)<|hst.z rfl (Y.lenS underlying172 rfl)<|Drw.ww rfl (X.unsafeStrN hst rfl rfl fun w13 hst => ⟨St.ctx hst, hst.z rfl (Y.assignT rfl)<|Drw.done<|W.ret rfl<|⟨_, Rslt.one results196 rfl, ?_⟩⟩); exact ⟨rfl, hst.dr 1⟩
theorem string_any (b : Nat) (a : Option Addr) (A : Option Addr) (m cp : Nat) (l : List UInt8) (hz : 0 < m ∨ A = none) (hb : m ≤ 140737488355328) (w0 w : World) (F0 : List Nat) (L G : List Res) (hst : St w0 F0 w (cellsR b [.pointer a, .slice A m cp] 307 :: rowR (.slice A m cp) 5 1 m (bvs (l)) :: L) G) :
    Calls Tryz.prog 196 #[.pointer (some ⟨b, 0, none⟩)] w fun e w' => e = .returned (.string (str l)) ∧ St w0 F0 w' L G := by
  have hrow : (rowR (.slice A m cp) 5 1 m (bvs l)).holds w := hst.res _ (.tail _ (.head _)); have hlen : l.length = m := by have := hrow.1; rw [bvs_length, Nat.mul_one] at this; exact this
  rcases row_some hrow with ⟨rfl, rfl, rfl, hl⟩ | ⟨gb, rfl⟩
  · obtain rfl : l = [] := by unfold bvs at hl; rwa [List.map_eq_nil_iff] at hl
    exact string_nil b a _ _ _ _ _ (hst.sub (.cons_cons _ (.cons _ (.refl _))))
  · obtain ⟨_, _, hmc, _⟩ := row_cells hrow; exact string_some b a gb m cp l (hz.resolve_right (by simp)) hmc hb _ _ _ _ _ hst
def keyL (tbl : List Int) (tab : List (Int × Int)) : List UInt8 := tab.flatMap fun x => ((itoaL tbl x.1 ++ [58]) ++ itoaL tbl x.2) ++ [59]
theorem keyL_snoc (tbl : List Int) (l : List (Int × Int)) (k : Nat) (h : k < l.length) : keyL tbl (l.take (k + 1)) = keyL tbl (l.take k) ++ (((itoaL tbl (lp l k).1 ++ [58]) ++ itoaL tbl (lp l k).2) ++ [59]) := by
  rw [lp_snoc h]; unfold keyL; rw [List.flatMap_append]; simp
theorem keyL_le (tbl : List Int) (l : List (Int × Int)) (h : ∀ x ∈ l, In64 x.1 ∧ In64 x.2) : (keyL tbl l).length ≤ 50 * l.length := by
  induction l with
  | nil => simp [keyL]
  | cons x l ih =>
    have h1 := itoaL_le tbl (h x (by simp)).1; have h2 := itoaL_le tbl (h x (by simp)).2; have ih := ih fun y hy => h y (by simp [hy]); have e : keyL tbl (x :: l) = (((itoaL tbl x.1 ++ [58]) ++ itoaL tbl x.2) ++ [59]) ++ keyL tbl l := rfl; rw [e]; simp only [List.length_append, List.length_cons, List.length_nil]; omega
theorem str_app (a b : List UInt8) : str a ++ str b = str (a ++ b) := by
  apply ByteArray.ext; simp [str]
theorem Y.addL {P : Program} {S : World → Prop} {ρ : Env} {ty t t' : TypeId} {x y : Operand} {a b : List UInt8} (hx : ev ρ x = .string (str a)) (hy : ev ρ y = .string (str b)) (h : a.length + b.length ≤ 9223372036854775807) : Y P S ρ (.binOp .add t x y t') ty (.string (str (a ++ b))) := by
  rw [← str_app]; exact Y.addT hx hy (by rw [str_sz, str_sz]; exact h)
set_option maxHeartbeats 1000000 in
theorem key_any (tbl : List Int) (htl : tbl.length = 20) (l : List (Int × Int)) (hT : TabFit l) (A : Option Addr) (cap : Nat) (w0 w : World) (F0 : List Nat) (L G : List Res) (hst : St w0 F0 w L G) (hpw : powR tbl ∈ G) (hr : Rds L G (.slice A l.length cap) l.length (lcs l)) :
    Calls Tryz.prog 187 #[.slice A l.length cap] w fun e w' => e = .returned (.string (str (keyL tbl l))) ∧ St w0 F0 w' L G := by
  refine W.func func187 rfl ntmps187 rfl<|W.sr rfl<|hst.y rfl (Y.assignT rfl)<|Ops.ds rfl rfl<|Ops.ww rfl (X.allocA hst zeroValue307 fun p3 w3 hst => Ops.done rfl<|W.seq rfl<|W.sr rfl<|?_); replace hst := hst.nilRow 5 1; replace hst := hst.swap; refine hst.y rfl (Y.moveS rfl)<|hst.y rfl (Y.lenS underlying41 rfl)<|hst.y rfl (Y.moveI rfl)<|Ops.done rfl<|W.block rfl<|?_; refine W.loop (γ := Nat × Option Addr × Option Addr × Nat) [(3, .pointer _), (6, .slice _ _ _), (7, .int _ _)] (fun x => [(8, .int .i64 (x.1 : Int))]) (fun x w => (x.1 ≤ l.length ∧ (x.2.1 = none ∨ x.2.1 = some ⟨p3, 0, none⟩) ∧ (0 < (keyL tbl (l.take x.1)).length ∨ x.2.2.1 = none)) ∧ St w0 F0 w (cellsR p3 [.pointer x.2.1, .slice x.2.2.1 (keyL tbl (l.take x.1)).length x.2.2.2] 307 :: rowR (.slice x.2.2.1 (keyL tbl (l.take x.1)).length x.2.2.2) 5 1 (keyL tbl (l.take x.1)).length (bvs (keyL tbl (l.take x.1))) :: L) G) (fun x => l.length - x.1) ((0, none, none, 0)) rfl ⟨rfl, rfl, rfl, trivial⟩ ?_ ?_ ?_
  · exact ⟨rfl, trivial⟩
  · exact ⟨⟨by omega, .inl rfl, .inr rfl⟩, hst⟩
  · clear hst; rintro ⟨k, a, A3, c3⟩ j w4 ⟨⟨hk, ha, hz⟩, hst⟩; dsimp only at hk ha hz; refine W.sr rfl<|hst.yb rfl (Y.lss rfl rfl) (fun b9 hb9 => Ops.done rfl<|W.seq rfl<|?_); cases b9
    · replace hb9 := dF hb9; refine W.condF rfl rfl<|W.exit rfl<|W.seq rfl<|?_; obtain rfl : k = l.length := by omega
      have e1 : l.take l.length = l := List.take_length; have hkl := keyL_le tbl (l.take l.length) (fun x hx => hT.2 x (List.mem_of_mem_take hx)); rw [List.length_take] at hkl; have hl6 := hT.1; refine W.region rfl<|Ops.ww rfl (X.ret cf196 (string_any p3 a A3 (keyL tbl (l.take l.length)).length c3 (keyL tbl (l.take l.length)) hz (by omega) _ _ _ _ _ hst) rfl fun w23 hst => hst.y rfl (Y.assignT rfl)<|Ops.done rfl<|W.ret rfl<|⟨_, Rslt.one results187 rfl, ?_⟩); exact ⟨congrArg (fun q => Ending.returned (.string (str (keyL tbl q)))) e1, hst⟩
    · replace hb9 := dT hb9; refine W.condT rfl rfl<|W.skip rfl<|W.seq rfl<|W.block rfl<|W.seq rfl<|?_; have hk1 : k < l.length := by omega
      have hk2 := hT.2 _ (lp_mem hk1); have h1 := itoaL_le tbl hk2.1; have h2 := itoaL_le tbl hk2.2; have hkl := keyL_le tbl (l.take k) (fun x hx => hT.2 x (List.mem_of_mem_take hx)); rw [List.length_take] at hkl; have hl6 := hT.1; refine W.region rfl<|hst.y rfl (Y.indexAddr underlying41 sizeOf114 rfl rfl (((((hr.cons _).cons _)).sl hst).ne (by rw [lcs_length]; omega)) (by omega))<|?_; refine hst.y rfl (Y.loadSlA isAgg114 sizeOf114 rfl ((hr.cons _).cons _) (lcs_two hk1) rfl)<|Ops.ww rfl (X.allocA hst zeroValue114 fun p5 w5 hst => Ops.ww rfl (X.storeS hst 0 sizeOf114 rfl rfl rfl rfl rfl (lZ rfl) rfl rfl fun w4_3 hst => Ops.done rfl<|W.drawn rfl (by kernel_rfl) (Ctx _ _ (_) (_)) [6, 7, 8, 9] (.op 0 0 (.op 1 0 (.op 4 0 (.op 5 0 (.op 2 1 (.op 3 2 (.op 6 1 (.op 7 1 (.op 8 1 (.op 9 1 .nil)))))))))) rfl (by kernel_rfl) hst.drew.ctx<|?_)); replace hst := hst.drew; generalize World.drew _ = wd at hst ⊢; refine hst.z rfl (Y.fieldAddr fa114_0 rfl)<|hst.z rfl (Y.load 0 isAgg3 rfl rfl rfl)<|hst.z rfl (Y.fieldAddr fa114_1 rfl)<|hst.z rfl (Y.load 0 isAgg3 rfl rfl rfl)<|Drw.ww rfl (X.ret cf195 (itoa_any tbl htl (lp l k).1 hk2.1 _ _ _ _ _ hst hpw) rfl fun w14 hst => ⟨hst.ctx, Drw.ya rfl rfl rfl hst.ctx (Y.addL rfl rfl (by simp only [List.length_append, List.length_cons, List.length_nil]; omega))<|?_⟩); refine Drw.z rfl rfl rfl rfl (X.ret cf195 (itoa_any tbl htl (lp l k).2 hk2.2 _ _ _ _ _ hst hpw) rfl fun w18 hst => Drw.zy rfl rfl rfl rfl hst.ctx (Y.addL rfl rfl (by simp only [List.length_append, List.length_cons, List.length_nil]; omega))<|?_); refine Drw.zy rfl rfl rfl rfl hst.ctx (Y.addL rfl rfl (by simp only [List.length_append, List.length_cons, List.length_nil]; omega)) ?_; refine Drw.z rfl rfl rfl rfl (X.call cf194 rfl ?_); refine use_call (writeString_any p3 a A3 (keyL tbl (l.take k)).length c3 (keyL tbl (l.take k)) ha (((itoaL tbl (lp l k).1 ++ [58]) ++ itoaL tbl (lp l k).2) ++ [59]) (by simp only [List.length_append, List.length_cons, List.length_nil]; omega) (by simp only [List.length_append, List.length_cons, List.length_nil]; omega) _ _ _ _ _ (hst.up_2.up_2)) rfl ?_; clear hst; rintro e w21 ⟨v21, A21, c21, rfl, hst⟩; replace hst := hst.dn2.dn2; refine ⟨_, rfl, ?_⟩; refine Drw.done<|W.region rfl<|hst.y rfl (Y.addI rfl rfl (by omega))<|hst.y rfl (Y.moveI rfl)<|Ops.done rfl<|?_; have hst2 := (hst.dr 1); have e1 := keyL_snoc tbl l k hk1; rw [← e1] at hst2; have e2 := congrArg List.length e1; rw [List.length_append] at e2; rw [← e2] at hst2; exact ⟨(k + 1, some ⟨p3, 0, none⟩, A21, c21), ⟨rfl, trivial⟩, ⟨rfl, rfl, rfl, trivial⟩, ⟨⟨by omega, .inr rfl, .inl (by rw [e2]; simp only [List.length_append, List.length_cons, List.length_nil]; omega)⟩, hst2⟩, by dsimp only; omega⟩
theorem cf187 : CF 187 := fun _ _ => by simp [go_sem]
theorem cf188 : CF 188 := fun _ _ => by simp [go_sem]
theorem cf189 : CF 189 := fun _ _ => by simp [go_sem]
theorem cf190 : CF 190 := fun _ _ => by simp [go_sem]
theorem info9 : (Tryz.prog.info? 9).map (fun i => (i.zero, i.size, i.bytes)) = some (some (Value.string ⟨#[]⟩), 1, 16) := by kernel_rfl
structure Tb where
  tab : List (Int × Int)
  A : Option Addr
  cap : Nat
def tbC (t : Tb) : List Value := [.slice t.A t.tab.length t.cap]
theorem tbC_len (t : Tb) : (tbC t).length = 1 := rfl
theorem tb_get (l : List Tb) (k : Nat) (h : k < l.length) : (flat tbC l)[(k : Int).toNat * 1]? = some (.slice l[k].A l[k].tab.length l[k].cap) := flat_one tbC_len l k h
def TbFit (G : List Res) (l : List Tb) : Prop := ∀ t ∈ l, TabFit t.tab ∧ Rds [] G (.slice t.A t.tab.length t.cap) t.tab.length (lcs t.tab)
def keyOf (tbl : List Int) (t : Tb) : ByteArray := str (keyL tbl t.tab)
def adKeys (tbl : List Int) (l : List Tb) : List ByteArray := (l.filter fun t => decide (goodTab t.tab)).map (keyOf tbl)
theorem adKeys_snoc (tbl : List Int) (l : List Tb) (k : Nat) (h : k < l.length) : adKeys tbl (l.take (k + 1)) = if goodTab l[k].tab then adKeys tbl (l.take k) ++ [keyOf tbl l[k]] else adKeys tbl (l.take k) := by
  rw [List.take_succ_eq_append_getElem h]; unfold adKeys; rw [List.filter_append, List.map_append]
  by_cases hg : goodTab l[k].tab
  · rw [if_pos hg]; simp [hg]
  · rw [if_neg hg]; simp [hg]
theorem adKeys_le (tbl : List Int) (l : List Tb) : (adKeys tbl l).length ≤ l.length := by
  unfold adKeys; rw [List.length_map]; exact List.length_filter_le _ _
theorem adKeys_mem {tbl : List Int} {l : List Tb} {s : ByteArray} (h : s ∈ adKeys tbl l) : ∃ t ∈ l, decide (keyOf tbl t = s) = true := by
  unfold adKeys at h; obtain ⟨t, ht, rfl⟩ := List.mem_map.1 h; exact ⟨t, (List.mem_filter.1 ht).1, decide_eq_true rfl⟩
theorem idxI_pos {α : Type} {p : α → Bool} {l : List α} (h : ∃ x ∈ l, p x = true) : ∃ j : Nat, idxI p l = (j : Int) ∧ j < l.length := by
  have h1 := idxI_ex p l; rw [decide_eq_true h] at h1; have h2 := of_decide_eq_true h1; have h3 := (idxI_range p l).2; refine ⟨(idxI p l).toNat, by omega, ?_⟩; rcases h3 with h3 | h3
  · omega
  · omega
theorem adopt1_any (tbl : List Int) (htl : tbl.length = 20) (t : Tb) (hT : TabFit t.tab) (key : ByteArray) (b : Nat) (w0 w : World) (F0 : List Nat) (L G : List Res) (hst : St w0 F0 w L G) (hpw : powR tbl ∈ G) (hr : Rds [] G (.slice t.A t.tab.length t.cap) t.tab.length (lcs t.tab)) (j : Nat) (hj : L[j]? = some (cellsR b [.string key] 9)) :
    Calls Tryz.prog 190 #[.slice t.A t.tab.length t.cap, .pointer (some ⟨b, 0, none⟩)] w fun e w' => e = .returned (.bool (decide (keyOf tbl t = key))) ∧ St w0 F0 w' L G := by
  refine W.func func190 rfl ntmps190 rfl<|W.sr rfl<|hst.y rfl (Y.assignB rfl)<|Ops.done rfl<|W.seq rfl<|W.drawn rfl (by kernel_rfl) (Ctx _ _ (_) (_)) [] (.op 0 0 (.op 2 0 (.op 1 1 (.op 3 0 (.op 4 0 .nil))))) rfl (by kernel_rfl) hst.drew.ctx<|?_; replace hst := hst.drew; generalize World.drew _ = wd at hst ⊢; refine hst.z rfl (Y.moveS rfl)<|hst.z rfl (Y.load j isAgg9 rfl hj rfl)<|Drw.ww rfl (X.ret cf187 (key_any tbl htl t.tab hT _ _ _ _ _ _ _ hst hpw hr.hd) rfl fun w5 hst => ⟨hst.ctx, Drw.yb rfl rfl rfl hst.ctx (Y.eqT rfl rfl) (fun b7 hb7 => hst.z rfl (Y.assignB rfl)<|Drw.done<|W.ret rfl<|⟨_, Rslt.one results190 rfl, ?_⟩)⟩); exact ⟨congrArg (fun b => Ending.returned (.bool b)) hb7, hst⟩
set_option maxHeartbeats 1000000 in
theorem adopt_any (tbl : List Int) (htl : tbl.length = 20) (p : Par) (own : List (Int × Int)) (hT : TabFit own) (A : Option Addr) (cap : Nat) (ts : List Tb) (htn : ts.length ≤ 1000000) (B : Option Addr) (cb : Nat) (w0 w : World) (F0 : List Nat) (L G : List Res) (hst : St w0 F0 w L G) (hpw : powR tbl ∈ G) (hfit : TbFit G ts) (hro : Rds [] G (.slice A (own).length cap) (own).length (lcs (own))) (hr : Rds L G (.slice B ts.length cb) ts.length (flat tbC ts)) :
    Calls Tryz.prog 184 #[.agg #[.int .i64 p.N, .int .i64 p.F, .int .i64 p.D, .int .i64 p.Beat, .int .i64 p.Rho, .int .i64 p.Delay, .int .i64 p.Jitter, .int .i64 p.Eps, .int .i64 p.Mu, .int .i64 p.Hold, .int .i64 p.Pulse, .int .i64 p.Second], .slice A own.length cap, .slice B ts.length cb] w fun e w' => ∃ tab A' c' b, e = .returned (.tuple #[.slice A' tab.length c', .bool b]) ∧ (tab = own ∨ ∃ t ∈ ts, tab = t.tab) ∧ St w0 F0 w' L (rowR (.slice A' (tab).length c') 114 2 (tab).length (lcs (tab)) :: G) := by
  refine W.func func184 rfl ntmps184 rfl<|W.sr rfl<|Ops.ww rfl (X.boxA hst rfl fun p3 w3 hst => hst.y rfl (Y.assignS rfl)<|hst.y rfl (Y.assignB rfl)<|Ops.ds rfl rfl<|hst.y rfl (Y.assignS rfl)<|Ops.done rfl<|W.seq rfl<|W.sr rfl<|?_); replace hst := hst.nilRow 9 1; refine hst.y rfl (Y.moveS rfl)<|hst.y rfl (Y.lenS underlying290 rfl)<|hst.y rfl (Y.moveI rfl)<|Ops.done rfl<|W.block rfl<|?_; refine W.loop (γ := Nat × (Option Addr × Nat)) [(1, .slice _ _ _), (2, .slice _ _ _), (3, .pointer _), (14, .slice _ _ _), (15, .int _ _)] (fun x => [(8, .slice x.2.1 (adKeys tbl (ts.take x.1)).length x.2.2), (16, .int .i64 (x.1 : Int))]) (fun x w => x.1 ≤ ts.length ∧ St w0 F0 w (rowR (.slice x.2.1 (adKeys tbl (ts.take x.1)).length x.2.2) 9 1 (adKeys tbl (ts.take x.1)).length (strC (adKeys tbl (ts.take x.1))) :: cellsR p3 (parC p) 23 :: L) G) (fun x => ts.length - x.1) ((0, (none, 0))) rfl ⟨rfl, rfl, rfl, rfl, rfl, trivial⟩ ?_ ?_ ?_
  · exact ⟨rfl, rfl, trivial⟩
  · exact ⟨by omega, hst⟩
  · clear hst; rintro ⟨k, ⟨A8, c8⟩⟩ j w5 ⟨hk, hst⟩; refine W.sr rfl<|hst.yb rfl (Y.lss rfl rfl) (fun b17 hb17 => Ops.done rfl<|W.seq rfl<|?_); cases b17
    · replace hb17 := dF hb17; refine W.condF rfl rfl<|W.exit rfl<|W.seq rfl<|?_; obtain rfl : k = ts.length := by omega
      have hkl := adKeys_le tbl (ts.take ts.length); rw [List.length_take] at hkl; replace hkl : (adKeys tbl (ts.take ts.length)).length ≤ 1000000 := by omega
      have e1 : ts.take ts.length = ts := List.take_length; refine W.region rfl<|hst.y rfl (Y.fieldAddr fa23_1 rfl)<|hst.y rfl (Y.load 1 isAgg3 rfl rfl rfl)<|hst.y rfl (Y.moveS rfl)<|Ops.ww rfl (X.call cf188 rfl<|?_); refine use_call (agreed_any p.F (adKeys tbl (ts.take ts.length)) hkl A8 c8 _ _ _ _ _ hst (Rds.rowL 0 rfl)) rfl ?_; clear hst; rintro e w32 ⟨key, b34, rfl, hkey, hst⟩; have hb34 : b34 = decide (b34 = true) := by (cases b34 <;> rfl)
      refine ⟨_, rfl, hst.y rfl (Y.moveU rfl)<|hst.y rfl (Y.extract rfl rfl)<|hst.y rfl (Y.extract rfl rfl)<|Ops.ww rfl (X.alloc1 hst zeroValue9 rfl fun p11 w11 hst => Ops.ww rfl (X.storeV hst 0 (.string _) sizeOf9 rfl rfl rfl rfl (lZ rfl) rfl rfl fun w8_8 hst => hst.y rfl (Y.assignB rfl)<|Ops.done rfl<|W.seq rfl<|W.sr rfl<|hst.y rfl (Y.moveB rfl)<|?_))⟩; cases b34
      · replace hb34 := dF hb34; refine hst.y rfl (Y.not rfl)<|Ops.done rfl<|W.condT rfl rfl<|W.sr rfl<|hst.y rfl (Y.moveS rfl)<|Ops.ww rfl (X.call cf40 rfl<|?_); refine use_call (clone_any _ _ own hT.1 _ _ _ _ _ hst hro.hd) rfl ?_; clear hst; rintro e w38 ⟨A38, c38, rfl, hst⟩; refine ⟨_, rfl, ?_⟩; refine hst.y rfl (Y.assignS rfl)<|hst.y rfl (Y.assignB rfl)<|Ops.done rfl<|W.ret rfl<|⟨_, Rslt.two results184 rfl rfl, ?_⟩; exact ⟨own, A38, c38, _, rfl, .inl rfl, (hst.dr 3)⟩
      · replace hb34 := dT hb34; refine hst.y rfl (Y.not rfl)<|Ops.done rfl<|W.condF rfl rfl<|W.skip rfl<|W.seq rfl<|?_; have hmem := hkey rfl; rw [e1] at hmem; obtain ⟨jx, hj2, hjx⟩ := idxI_pos (adKeys_mem hmem); refine W.region rfl<|hst.y rfl (Y.moveS rfl)<|hst.y rfl (Y.makeFunc rfl rfl)<|Ops.ww rfl (X.ret cf189 (indexFunc_tabs tbC tbC_len (fun t => decide (keyOf tbl t = key)) ts (by omega) B cb 190 [] [.pointer (some ⟨p11, 0, none⟩)] cf190 _ _ _ _ _ hst (((hr.cons _).cons _).cons _) (fun x hx w hst => adopt1_any tbl htl x (hfit x hx).1 key p11 _ _ _ _ _ hst hpw (hfit x hx).2 0 rfl)) rfl fun w41 hst => hst.y rfl (Y.assignI rfl)<|Ops.ds rfl rfl<|hst.y rfl (Y.moveS rfl)<|hst.y rfl (Y.moveI rfl)<|hst.y rfl (Y.indexAddr underlying290 sizeOf41 rfl rfl ((Rds.sl (((hr.cons _).cons _).cons _) hst).ne (flat_pos tbC_len (by decide) (by omega))) (by omega))<|?_); refine hst.y rfl (Y.loadSl isAgg41 rfl (((hr.cons _).cons _).cons _) (by rw [hj2]; exact tb_get ts jx hjx)) ?_; refine Ops.ww rfl (X.call cf40 rfl ?_); refine use_call (clone_any _ _ ts[jx].tab (hfit _ (List.getElem_mem hjx)).1.1 _ _ _ _ _ hst (hfit _ (List.getElem_mem hjx)).2.hd) rfl ?_; clear hst; rintro e w46 ⟨A46, c46, rfl, hst⟩; refine ⟨_, rfl, ?_⟩; refine hst.y rfl (Y.assignS rfl)<|hst.y rfl (Y.assignB rfl)<|Ops.done rfl<|W.ret rfl<|⟨_, Rslt.two results184 rfl rfl, ?_⟩; exact ⟨ts[jx].tab, A46, c46, _, rfl, .inr ⟨_, List.getElem_mem hjx, rfl⟩, (hst.dr 3)⟩
    · replace hb17 := dT hb17; refine W.condT rfl rfl<|W.skip rfl<|W.seq rfl<|W.block rfl<|W.seq rfl<|?_; have hk1 : k < ts.length := by omega
      have hdf := hfit _ (List.getElem_mem hk1); have hkl := adKeys_le tbl (ts.take k); rw [List.length_take] at hkl; refine W.region rfl<|hst.y rfl (Y.indexAddr underlying290 sizeOf41 rfl rfl ((Rds.sl ((hr.cons _).cons _) hst).ne (flat_pos tbC_len (by decide) (by omega))) (by omega))<|?_; refine hst.y rfl (Y.loadSl isAgg41 rfl ((hr.cons _).cons _) (tb_get ts k hk1))<|hst.y rfl (Y.assignS rfl)<|Ops.ds rfl rfl<|hst.y rfl (Y.moveS rfl)<|Ops.ww rfl (X.retB cf41 (good_tab ts[k].tab _ _ hdf.1.1 hdf.1.2 _ _ _ _ _ hst hdf.2.hd) rfl fun b21 w21 hb21 hst => Ops.done rfl<|?_); cases b21
      · replace hb21 := dF hb21; refine W.condF rfl rfl<|W.skip rfl<|W.region rfl<|hst.y rfl (Y.addI rfl rfl (by omega))<|hst.y rfl (Y.moveI rfl)<|Ops.done rfl<|?_; have e2 := (adKeys_snoc tbl ts k hk1).trans (if_neg hb21); refine ⟨(k + 1, (A8, c8)), ⟨?_, rfl, trivial⟩, ⟨rfl, rfl, rfl, rfl, rfl, trivial⟩, ⟨by omega, by rw [e2]; exact hst⟩, by dsimp only at *; omega⟩; rw [e2]; rfl
      · replace hb21 := dT hb21; refine W.condT rfl rfl<|W.region rfl<|hst.y rfl (Y.moveS rfl)<|hst.y rfl (Y.moveS rfl)<|Ops.ww rfl (X.ret cf187 (key_any tbl htl ts[k].tab hdf.1 _ _ _ _ _ _ _ hst hpw hdf.2.hd) rfl fun w24 hst => Ops.ww rfl (X.lits hst underlying28 sizeOf9 zeroValue9 (by rfl) (by rfl) (by rfl) [.string _] (by rfl) (by rfl) fun p25 w25 hst => ?_)); refine Ops.ww rfl (X.app hst 1 0 underlying28 info9 rfl rfl rfl rfl rfl rfl rfl rfl (by dsimp only; unfold maxLen; omega) (by dsimp only; omega) fun A26 c26 w26 hst => ?_); refine hst.y rfl (Y.assignS rfl)<|Ops.done rfl<|W.region rfl<|hst.y rfl (Y.addI rfl rfl (by omega))<|hst.y rfl (Y.moveI rfl)<|Ops.done rfl<|?_; have e2 := (adKeys_snoc tbl ts k hk1).trans (if_pos hb21); have e3 : (adKeys tbl (ts.take k) ++ [keyOf tbl ts[k]]).length = (adKeys tbl (ts.take k)).length + 1 := by simp
        have e4 : strC (adKeys tbl (ts.take k) ++ [keyOf tbl ts[k]]) = strC (adKeys tbl (ts.take k)) ++ [.string (keyOf tbl ts[k])] := by unfold strC; rw [List.map_append]; rfl
        refine ⟨(k + 1, (A26, c26)), ⟨?_, rfl, trivial⟩, ⟨rfl, rfl, rfl, rfl, rfl, trivial⟩, ⟨by omega, by rw [e2, e3, e4]; exact (hst.dr 1)⟩, by dsimp only at *; omega⟩; rw [e2, e3]; rfl
end Go.Proofs.YtaanjifekgfemaaGreat.Cl
end
section
namespace Go.Proofs.YtaanjifekgfemaaGreat.Cl
open Tryz
open Go.RowKit Go.Proofs.YtaanjifekgfemaaGreat.K Go.Proofs.YtaanjifekgfemaaGreat.W
def coreT (h : Hd) : Prop := h.m.good = true ∧ ¬ h.m.shi < h.m.slo
instance (h : Hd) : Decidable (coreT h) := by unfold coreT; infer_instance
def coreF (l : List Hd) : List Hd := l.filter fun h => decide (coreT h)
def coreH (p : Par) (l : List Hd) : List Hd := coreF (told p (-1) l)
def wayS (p : Par) (h : Hd) : Sp := way p ⟨h.m.slo, h.m.shi⟩ h.age
def tbOf (h : Hd) : Tb := ⟨h.m.tab, h.A, h.cap⟩
def heldOf (h : Hd) : Int := h.m.held
theorem coreF_snoc (l : List Hd) (k : Nat) (h : k < l.length) : coreF (l.take (k + 1)) = if coreT l[k] then coreF (l.take k) ++ [l[k]] else coreF (l.take k) := by
  rw [List.take_succ_eq_append_getElem h]; unfold coreF; rw [List.filter_append]
  by_cases hg : coreT l[k]
  · rw [if_pos hg]; simp [hg]
  · rw [if_neg hg]; simp [hg]
theorem coreF_le (l : List Hd) : (coreF l).length ≤ l.length := List.length_filter_le _ _
theorem coreF_mem {l : List Hd} {h : Hd} (hm : h ∈ coreF l) : h ∈ l ∧ coreT h := by
  unfold coreF at hm; have := List.mem_filter.1 hm; exact ⟨this.1, of_decide_eq_true this.2⟩
def coreSp (p : Par) (l : List Hd) : List Sp := (coreH p l).map (wayS p)
def coreOk (p : Par) (l : List Hd) : Prop := fuseOk p.F (coreSp p l)
instance (p : Par) (l : List Hd) : Decidable (coreOk p l) := by unfold coreOk; infer_instance
def coreS (p : Par) (l : List Hd) (nx : Stt) (tab : List (Int × Int)) : Stt := { nx with lo := (fuseV p.F (coreSp p l)).lo, hi := (fuseV p.F (coreSp p l)).hi, held := heldV p.F ((coreH p l).map heldOf), hops := 0, good := true, tab := tab }
def coreR (p : Par) (l : List Hd) (nx : Stt) (tab : List (Int × Int)) : Stt := if coreOk p l then coreS p l nx tab else nx
def coreTab (p : Par) (l : List Hd) (nx : Stt) (tab : List (Int × Int)) : Prop := tab = nx.tab ∨ ∃ h ∈ coreH p l, tab = h.m.tab
end Go.Proofs.YtaanjifekgfemaaGreat.Cl
end
section
namespace Go.Proofs.YtaanjifekgfemaaGreat.Cl
open Tryz
open Go.RowKit Go.Proofs.YtaanjifekgfemaaGreat.K Go.Proofs.YtaanjifekgfemaaGreat.W
attribute [local irreducible] bound clip adds sub neg mag mulp mul maxs
theorem cf183 : CF 183 := fun _ _ => by simp [go_sem]
theorem cf184 : CF 184 := fun _ _ => by simp [go_sem]
theorem info41 : (Tryz.prog.info? 41).map (fun i => (i.zero, i.size, i.bytes)) = some (some (Value.slice none 0 0), 1, 24) := by kernel_rfl
theorem ivs_append1 (l : List Int) (x : Int) : ivs (l ++ [x]) = ivs l ++ [.int .i64 x] := by unfold ivs; rw [List.map_append]; rfl
theorem flat_one1 {α : Type} (c : α → List Value) (x : α) : flat c [x] = c x := by simp [flat]
set_option maxHeartbeats 4000000 in
theorem core_any (tbl : List Int) (htl : tbl.length = 20) (b : Nat) (T : TypeId) (p : Par) (s : Stt) (A : Option Addr) (cap : Nat) (rest : List Value) (l : List Hd) (hl : l.length ≤ 1000000) (hasc : Asc l) (B : Option Addr) (cb : Nat) (nx : Stt) (hnx : TabFit nx.tab) (A2 : Option Addr) (c2 : Nat) (w0 w : World) (F0 : List Nat) (L G : List Res) (hst : St w0 F0 w (frR b T p s A cap rest :: L) G) (hpw : powR tbl ∈ G) (hr : Rds L G (.slice B l.length cb) l.length (flat hdC l)) (hfit : HdFit G l) (hrx : Rds [] G (.slice A2 (nx.tab).length c2) (nx.tab).length (lcs (nx.tab))) :
    Calls Tryz.prog 176 #[.pointer (some ⟨b, 0, none⟩), .slice B l.length cb, .agg #[.int .i64 nx.lo, .int .i64 nx.hi, .int .i64 nx.time, .bool nx.set, .int .i64 nx.held, .int .i64 nx.hops, .bool nx.good, .slice A2 nx.tab.length c2, .int .i64 nx.st, .int .i64 nx.sn, .int .i64 nx.life]] w fun e w' => ∃ tab ok A3 c3 G', e = .returned (.tuple #[.agg (sttC (coreR p l nx tab) A3 c3).toArray, .bool ok]) ∧ ok = decide (coreOk p l) ∧ coreTab p l nx tab ∧ (∀ r ∈ G, r ∈ G') ∧ Rds [] G' (.slice A3 ((coreR p l nx tab).tab).length c3) ((coreR p l nx tab).tab).length (lcs ((coreR p l nx tab).tab)) ∧ St w0 F0 w' (frR b T p s A cap rest :: L) G' := by
  replace hr := hr.cons (frR b T p s A cap rest); refine W.func func176 rfl ntmps176 rfl<|W.sr rfl<|Ops.ww rfl (X.boxA hst rfl fun p5 w5 hst => Ops.ww rfl (X.allocA hst zeroValue57 fun p6 w6 hst => hst.y rfl (Y.assignB rfl)<|Ops.ds rfl rfl<|hst.y rfl (Y.assignS rfl)<|Ops.ds rfl rfl<|hst.y rfl (Y.assignS rfl)<|Ops.ds rfl rfl<|hst.y rfl (Y.assignS rfl)<|Ops.done rfl<|W.seq rfl<|W.sr rfl<|?_)); replace hst := ((hst.nilRow 41 1).nilRow 3 1).nilRow 53 2; refine hst.y rfl (Y.moveP rfl)<|hst.y rfl (Y.nilCheck rfl)<|hst.y rfl (Y.fieldAddr fa158_0 rfl)<|hst.y rfl (Y.fieldAddr fa60_0 rfl)<|hst.y rfl (Y.loadA 5 isAgg23 sizeOf23 rfl rfl rfl rfl)<|hst.y rfl (Y.moveS rfl)<|Ops.ww rfl (X.call cf118 rfl<|?_); refine use_call (told_any p (-1) l hl hasc _ _ _ _ _ _ _ hst (((((hr.cons _).cons _).cons _).cons _).cons _)) rfl ?_; clear hst; rintro e w21 ⟨A21, c21, rfl, hst⟩; refine ⟨_, rfl, ?_⟩; refine hst.y rfl (Y.lenS underlying97 rfl)<|hst.y rfl (Y.moveI rfl)<|Ops.done rfl<|W.block rfl<|?_; refine W.loop (γ := Nat × (Option Addr × Nat) × (Option Addr × Nat) × (Option Addr × Nat)) [(0, .pointer _), (5, .pointer _), (6, .pointer _), (21, .slice _ _ _), (22, .int _ _)] (fun x => [(8, .slice x.2.1.1 ((coreF ((told p (-1) l).take x.1)).map (wayS p)).length x.2.1.2), (9, .slice x.2.2.1.1 ((coreF ((told p (-1) l).take x.1)).map heldOf).length x.2.2.1.2), (10, .slice x.2.2.2.1 ((coreF ((told p (-1) l).take x.1)).map tbOf).length x.2.2.2.2), (23, .int .i64 (x.1 : Int))]) (fun x w => x.1 ≤ (told p (-1) l).length ∧ St w0 F0 w (rowR (.slice x.2.1.1 ((coreF ((told p (-1) l).take x.1)).map (wayS p)).length x.2.1.2) 53 2 ((coreF ((told p (-1) l).take x.1)).map (wayS p)).length (flat spC ((coreF ((told p (-1) l).take x.1)).map (wayS p))) :: rowR (.slice x.2.2.1.1 ((coreF ((told p (-1) l).take x.1)).map heldOf).length x.2.2.1.2) 3 1 ((coreF ((told p (-1) l).take x.1)).map heldOf).length (ivs ((coreF ((told p (-1) l).take x.1)).map heldOf)) :: rowR (.slice A21 (told p (-1) l).length c21) 138 15 (told p (-1) l).length (flat hdC (told p (-1) l)) :: rowR (.slice x.2.2.2.1 ((coreF ((told p (-1) l).take x.1)).map tbOf).length x.2.2.2.2) 41 1 ((coreF ((told p (-1) l).take x.1)).map tbOf).length (flat tbC ((coreF ((told p (-1) l).take x.1)).map tbOf)) :: cellsR p6 (sttC ⟨0, 0, 0, false, 0, 0, false, [], 0, 0, 0⟩ none 0) 57 :: cellsR p5 (sttC (nx) A2 c2) 57 :: frR b T p s A cap rest :: L) G) (fun x => (told p (-1) l).length - x.1) ((0, (none, 0), (none, 0), (none, 0))) rfl ⟨rfl, rfl, rfl, rfl, rfl, trivial⟩ ?_ ?_ ?_
  · exact ⟨rfl, rfl, rfl, rfl, trivial⟩
  · exact ⟨by omega, hst.up_2.up_2⟩
  · clear hst; rintro ⟨k, ⟨A8, c8⟩, ⟨A9, c9⟩, ⟨A10, c10⟩⟩ j w5 ⟨hk, hst⟩; refine W.sr rfl<|hst.yb rfl (Y.lss rfl rfl) (fun b24 hb24 => Ops.done rfl<|W.seq rfl<|?_); cases b24
    · replace hb24 := dF hb24; refine W.condF rfl rfl<|W.exit rfl<|W.seq rfl<|?_; obtain rfl : k = (told p (-1) l).length := by omega
      have hcl := coreF_le ((told p (-1) l).take (told p (-1) l).length); rw [List.length_take] at hcl; have h16 := told_length (p := p) (me := -1) hasc; have hgl : ((coreF ((told p (-1) l).take (told p (-1) l).length)).map (wayS p)).length ≤ 1000000 := by rw [List.length_map]; omega
      have hgl2 : ((coreF ((told p (-1) l).take (told p (-1) l).length)).map heldOf).length ≤ 1000000 := by rw [List.length_map]; omega
      have hgl3 : ((coreF ((told p (-1) l).take (told p (-1) l).length)).map tbOf).length ≤ 1000000 := by rw [List.length_map]; omega
      have e1 : (coreF ((told p (-1) l).take (told p (-1) l).length)) = coreH p l := by rw [List.take_length]; rfl
      have htf : TbFit G ((coreF ((told p (-1) l).take (told p (-1) l).length)).map tbOf) := by
        intro t ht; obtain ⟨h, hh, rfl⟩ := List.mem_map.1 ht; exact hfit h ((told_sublist p (-1) l).mem (List.mem_of_mem_take (coreF_mem hh).1))
      refine W.region rfl<|hst.y rfl (Y.moveP rfl)<|hst.y rfl (Y.nilCheck rfl)<|hst.y rfl (Y.fieldAddr fa158_0 rfl)<|hst.y rfl (Y.fieldAddr fa60_0 rfl)<|hst.y rfl (Y.loadA 6 isAgg23 sizeOf23 rfl rfl rfl rfl)<|hst.y rfl (Y.moveS rfl)<|Ops.ww rfl (X.call cf122 rfl<|?_); refine use_call (afuse_any p ((coreF ((told p (-1) l).take (told p (-1) l).length)).map (wayS p)) hgl A8 c8 _ _ _ _ _ hst (Rds.rowL 0 rfl)) rfl ?_; clear hst; rintro e w71 ⟨b73, rfl, hb73, hst⟩; refine ⟨_, rfl, ?_⟩; refine hst.y rfl (Y.moveU rfl)<|hst.y rfl (Y.extract rfl rfl)<|hst.y rfl (Y.extract rfl rfl)<|Ops.ww rfl (X.allocA hst zeroValue53 fun p13 w13 hst => Ops.ww rfl (X.storeS hst 0 sizeOf53 rfl rfl rfl rfl rfl (lZ rfl) rfl rfl fun w11_11 hst => hst.y rfl (Y.assignB rfl)<|Ops.done rfl<|W.seq rfl<|W.sr rfl<|hst.y rfl (Y.moveB rfl)<|?_)); cases b73
      · replace hb73 := dF hb73; refine hst.y rfl (Y.not rfl)<|Ops.done rfl<|W.condT rfl rfl<|W.sr rfl<|hst.y rfl (Y.loadA 6 isAgg57 sizeOf57 rfl rfl rfl rfl)<|Ops.ww rfl (X.storeS hst 5 sizeOf57 rfl rfl rfl rfl rfl (lZ rfl) rfl rfl fun w13_1 hst => hst.y rfl (Y.assignB rfl)<|Ops.done rfl<|W.ret rfl<|⟨_, Rslt.cellTmp results176 rfl (res_at isAgg57 sizeOf57 5 hst rfl rfl) rfl, ?_⟩); rw [e1] at hb73; have hno : ¬ coreOk p l := hb73; have hq : coreR p l nx nx.tab = nx := if_neg hno; exact ⟨nx.tab, false, A2, c2, G, congrArg (fun q => Ending.returned (.tuple #[.agg (sttC q A2 c2).toArray, .bool false])) hq.symm, (decide_eq_false hno).symm, .inl rfl, fun r hr => hr, by rw [hq]; exact hrx, (hst.dr 7)⟩
      · replace hb73 := dT hb73; refine hst.y rfl (Y.not rfl)<|Ops.done rfl<|W.condF rfl rfl<|W.skip rfl<|W.sr rfl<|hst.y rfl (Y.loadA 0 isAgg53 sizeOf53 rfl rfl rfl rfl)<|hst.y rfl (Y.fieldAddr fa57_0 rfl)<|Ops.ww rfl (X.storeS hst 6 sizeOf53 rfl rfl rfl rfl rfl (lZ rfl) rfl rfl fun w14_2 hst => hst.y rfl (Y.fieldAddr fa57_4 rfl)<|Ops.ww rfl (X.storeV hst 6 (.int _ _) sizeOf3 rfl rfl rfl rfl (lZ rfl) rfl rfl fun w14_4 hst => hst.y rfl (Y.fieldAddr fa57_5 rfl)<|Ops.ww rfl (X.storeV hst 6 (.bool _) sizeOf4 rfl rfl rfl rfl (lZ rfl) rfl rfl fun w14_6 hst => Ops.ds rfl rfl<|hst.y rfl (Y.moveP rfl)<|hst.y rfl (Y.nilCheck rfl)<|hst.y rfl (Y.fieldAddr fa158_0 rfl)<|hst.y rfl (Y.fieldAddr fa60_0 rfl)<|hst.y rfl (Y.loadA 7 isAgg23 sizeOf23 rfl rfl rfl rfl)<|hst.y rfl (Y.moveS rfl)<|Ops.ww rfl (X.call cf183 rfl<|?_)))); refine use_call (held_any p ((coreF ((told p (-1) l).take (told p (-1) l).length)).map heldOf) hgl2 A9 c9 _ _ _ _ _ hst (.tail _ (.tail _ (.head _)))) rfl ?_; clear hst; rintro e w88 ⟨b90, rfl, hst⟩; refine ⟨_, rfl, ?_⟩; refine hst.y rfl (Y.moveU rfl)<|hst.y rfl (Y.extract rfl rfl)<|hst.y rfl (Y.extract rfl rfl)<|hst.y rfl (Y.fieldAddr fa57_3 rfl)<|Ops.ww rfl (X.storeV hst 6 (.int _ _) sizeOf3 rfl rfl rfl rfl (lZ rfl) rfl rfl fun w15_11 hst => Ops.done rfl<|W.seq rfl<|W.drawn rfl (by kernel_rfl) (Ctx _ _ (_) (_)) [13] (.op 0 0 (.op 1 0 (.op 2 0 (.op 3 0 (.op 4 0 (.op 5 0 (.op 6 0 (.op 7 0 (.op 8 1 (.op 9 0 (.op 10 0 (.op 11 2 (.op 12 0 (.op 13 1 .nil)))))))))))))) rfl (by kernel_rfl) hst.drew.ctx<|?_); replace hst := hst.drew; generalize World.drew _ = wd at hst ⊢; refine hst.z rfl (Y.moveP rfl)<|hst.z rfl (Y.nilCheck rfl)<|hst.z rfl (Y.fieldAddr fa158_0 rfl)<|hst.z rfl (Y.fieldAddr fa60_0 rfl)<|hst.z rfl (Y.loadA 7 isAgg23 sizeOf23 rfl rfl rfl rfl)<|hst.z rfl (Y.fieldAddr fa57_6 rfl)<|hst.z rfl (Y.load 6 isAgg41 rfl rfl rfl)<|hst.z rfl (Y.moveS rfl)<|Drw.ww rfl (X.call cf184 rfl<|?_); refine use_call (adopt_any tbl htl p nx.tab hnx A2 c2 ((coreF ((told p (-1) l).take (told p (-1) l).length)).map tbOf) hgl3 A10 c10 _ _ _ _ _ hst hpw htf hrx (Rds.rowL 4 rfl)) rfl ?_; clear hst; rintro e w101 ⟨tab, A101, c101, b103, rfl, htab, hst⟩; refine ⟨_, rfl, ⟨(hst.cxg 0 1), ?_⟩⟩; refine Drw.q rfl (hst.cxg 0 1) (Y.moveU rfl)<|Drw.q rfl (hst.cxg 0 1) (Y.extract rfl rfl)<|Drw.ya rfl rfl rfl (hst.cxg 0 1) (Y.extract rfl rfl)<|Drw.q rfl (hst.cxg 0 1) (Y.fieldAddr fa57_6 rfl)<|Drw.z rfl rfl rfl rfl (X.storeV hst 6 (.slice _ _ _) sizeOf41 rfl rfl rfl rfl (lZ rfl) rfl rfl fun w16_13 hst => Drw.done<|W.sr rfl<|hst.y rfl (Y.loadA 6 isAgg57 sizeOf57 rfl rfl rfl rfl)<|Ops.ww rfl (X.storeS hst 5 sizeOf57 rfl rfl rfl rfl rfl (lZ rfl) rfl rfl fun w17_1 hst => hst.y rfl (Y.assignB rfl)<|Ops.done rfl<|W.ret rfl<|⟨_, Rslt.cellTmp results176 rfl (res_at isAgg57 sizeOf57 5 hst rfl rfl) rfl, ?_⟩)); rw [e1] at hb73; have hyes : coreOk p l := hb73; have hq : coreR p l nx tab = coreS p l nx tab := if_pos hyes; have hq2 : coreS p l nx tab = { nx with lo := (fuseV p.F ((coreF ((told p (-1) l).take (told p (-1) l).length)).map (wayS p))).lo, hi := (fuseV p.F ((coreF ((told p (-1) l).take (told p (-1) l).length)).map (wayS p))).hi, held := heldV p.F ((coreF ((told p (-1) l).take (told p (-1) l).length)).map heldOf), hops := 0, good := true, tab := tab } := by unfold coreS coreSp; rw [← e1]
        refine ⟨tab, true, A101, c101, _, congrArg (fun q => Ending.returned (.tuple #[.agg (sttC q A101 c101).toArray, .bool true])) (hq.trans hq2).symm, (decide_eq_true hyes).symm, ?_, fun r hr => .tail _ hr, by rw [hq]; exact Rds.rowG 0 rfl, (hst.dr 7)⟩; rcases htab with h | ⟨t, ht, h⟩
        · exact .inl h
        · obtain ⟨h2, hh2, rfl⟩ := List.mem_map.1 ht; exact .inr ⟨h2, by rw [← e1]; exact hh2, h⟩
    · replace hb24 := dT hb24; refine W.condT rfl rfl<|W.skip rfl<|W.seq rfl<|W.block rfl<|W.seq rfl<|?_; have hk1 : k < (told p (-1) l).length := by omega
      have hcl := coreF_le ((told p (-1) l).take k); rw [List.length_take] at hcl; have h16 := told_length (p := p) (me := -1) hasc; have hm1 : ((coreF ((told p (-1) l).take k)).map (wayS p)).length = (coreF ((told p (-1) l).take k)).length := List.length_map ..; have hm2 : ((coreF ((told p (-1) l).take k)).map heldOf).length = (coreF ((told p (-1) l).take k)).length := List.length_map ..; have hm3 : ((coreF ((told p (-1) l).take k)).map tbOf).length = (coreF ((told p (-1) l).take k)).length := List.length_map ..; refine W.region rfl<|hst.y rfl (Y.indexAddr underlying97 sizeOf138 rfl rfl ((Rds.sl (Rds.rowL 2 (by rfl)) hst).ne (flat_pos hdC_len (by decide) (by omega))) (by omega))<|?_; refine hst.y rfl (Y.loadSlA isAgg138 sizeOf138 rfl (Rds.rowL 2 rfl) (flat_atI hdC_len (told p (-1) l) k hk1) (hdC_len _))<|Ops.ww rfl (X.allocA hst zeroValue138 fun p12 w12 hst => Ops.ww rfl (X.storeS hst 0 sizeOf138 rfl rfl rfl rfl rfl (lZ rfl) rfl rfl fun w6_3 hst => Ops.done rfl<|W.seq rfl<|?_)); refine W.cut [(0, .pointer _), (5, .pointer _), (6, .pointer _), (8, .slice _ _ _), (9, .slice _ _ _), (10, .slice _ _ _), (12, .pointer _), (21, .slice _ _ _), (22, .int _ _), (23, .int _ _)] (fun x : Bool => [(36, .bool x)]) (fun x w => x = decide (coreT (told p (-1) l)[k]) ∧ St w0 F0 w (cellsR p12 (hdC (told p (-1) l)[k]) 138 :: rowR (.slice (A8, c8).1 ((coreF ((told p (-1) l).take k)).map (wayS p)).length (A8, c8).2) 53 2 ((coreF ((told p (-1) l).take k)).map (wayS p)).length (flat spC ((coreF ((told p (-1) l).take k)).map (wayS p))) :: rowR (.slice (A9, c9).1 ((coreF ((told p (-1) l).take k)).map heldOf).length (A9, c9).2) 3 1 ((coreF ((told p (-1) l).take k)).map heldOf).length (ivs ((coreF ((told p (-1) l).take k)).map heldOf)) :: rowR (.slice A21 (told p (-1) l).length c21) 138 15 (told p (-1) l).length (flat hdC (told p (-1) l)) :: rowR (.slice (A10, c10).1 ((coreF ((told p (-1) l).take k)).map tbOf).length (A10, c10).2) 41 1 ((coreF ((told p (-1) l).take k)).map tbOf).length (flat tbC ((coreF ((told p (-1) l).take k)).map tbOf)) :: cellsR p6 (sttC ⟨0, 0, 0, false, 0, 0, false, [], 0, 0, 0⟩ none 0) 57 :: cellsR p5 (sttC (nx) A2 c2) 57 :: frR b T p s A cap rest :: L) G) ⟨rfl, rfl, rfl, rfl, rfl, rfl, rfl, rfl, rfl, rfl, trivial⟩ ?_ ?_
      rotate_left
      · clear hst; rintro b36 j w7 ⟨hb36, hst⟩; cases b36
        · replace hb36 := dF hb36; refine W.condF rfl rfl<|W.skip rfl<|W.region rfl<|hst.y rfl (Y.addI rfl rfl (by omega))<|hst.y rfl (Y.moveI rfl)<|Ops.done rfl<|?_; have e2 := (coreF_snoc _ k hk1).trans (if_neg hb36); refine ⟨(k + 1, (A8, c8), (A9, c9), (A10, c10)), ⟨?_, ?_, ?_, rfl, trivial⟩, ⟨rfl, rfl, rfl, rfl, rfl, trivial⟩, ⟨by omega, by rw [e2]; exact (hst.dr 1)⟩, by dsimp only at *; omega⟩ <;> rw [e2] <;> rfl
        · replace hb36 := dT hb36; refine W.condT rfl rfl<|W.seq rfl<|?_; replace hst := hst.up_2; replace hst := hst.up_2; refine W.cut [(0, .pointer _), (5, .pointer _), (6, .pointer _), (10, .slice _ _ _), (12, .pointer _), (21, .slice _ _ _), (22, .int _ _), (23, .int _ _)] (fun x : (Option Addr × Nat) × (Option Addr × Nat) => [(8, .slice x.1.1 (((coreF ((told p (-1) l).take k)).map (wayS p)).length + 1) x.1.2), (9, .slice x.2.1 (((coreF ((told p (-1) l).take k)).map heldOf).length + 1) x.2.2)]) (fun x w => St w0 F0 w (rowR (.slice x.1.1 (((coreF ((told p (-1) l).take k)).map (wayS p)).length + 1) x.1.2) 53 2 (((coreF ((told p (-1) l).take k)).map (wayS p)).length + 1) (flat spC ((coreF ((told p (-1) l).take k)).map (wayS p)) ++ spC (wayS p (told p (-1) l)[k])) :: rowR (.slice x.2.1 (((coreF ((told p (-1) l).take k)).map heldOf).length + 1) x.2.2) 3 1 (((coreF ((told p (-1) l).take k)).map heldOf).length + 1) (ivs ((coreF ((told p (-1) l).take k)).map heldOf) ++ [.int .i64 (told p (-1) l)[k].m.held]) :: cellsR p12 (hdC (told p (-1) l)[k]) 138 :: rowR (.slice A21 (told p (-1) l).length c21) 138 15 (told p (-1) l).length (flat hdC (told p (-1) l)) :: rowR (.slice A10 ((coreF ((told p (-1) l).take k)).map tbOf).length c10) 41 1 ((coreF ((told p (-1) l).take k)).map tbOf).length (flat tbC ((coreF ((told p (-1) l).take k)).map tbOf)) :: cellsR p6 (sttC ⟨0, 0, 0, false, 0, 0, false, [], 0, 0, 0⟩ none 0) 57 :: cellsR p5 (sttC (nx) A2 c2) 57 :: frR b T p s A cap rest :: L) G) ⟨rfl, rfl, rfl, rfl, rfl, rfl, rfl, rfl, trivial⟩ ?_ ?_
          rotate_left
          · clear hst; rintro ⟨⟨A50, c50⟩, ⟨A56, c56⟩⟩ j w8 hst; refine W.region rfl<|hst.y rfl (Y.moveS rfl)<|hst.y rfl (Y.fieldAddr fa138_0 rfl)<|hst.y rfl (Y.fieldAddr fa103_10 rfl)<|hst.y rfl (Y.load 2 isAgg41 rfl rfl rfl)<|Ops.ww rfl (X.lits hst underlying290 sizeOf41 zeroValue41 (by rfl) (by rfl) (by rfl) [.slice _ _ _] (by rfl) (by rfl) fun p61 w61 hst => ?_); refine Ops.ww rfl (X.app hst 5 0 underlying290 info41 rfl rfl rfl rfl rfl rfl rfl rfl (by (try dsimp only); unfold maxLen; omega) (by (try dsimp only); omega) fun A62 c62 w62 hst => ?_); refine hst.y rfl (Y.assignS rfl)<|Ops.done rfl<|W.region rfl<|hst.y rfl (Y.addI rfl rfl (by omega))<|hst.y rfl (Y.moveI rfl)<|Ops.done rfl<|?_; have e2 := (coreF_snoc _ k hk1).trans (if_pos hb36); refine ⟨(k + 1, (A50, c50), (A56, c56), (A62, c62)), ⟨?_, ?_, ?_, rfl, trivial⟩, ⟨rfl, rfl, rfl, rfl, rfl, trivial⟩, ⟨by omega, ?_⟩, by dsimp only at *; omega⟩
            · rw [e2, List.map_append, List.length_append]; rfl
            · rw [e2, List.map_append, List.length_append]; rfl
            · rw [e2, List.map_append, List.length_append]; rfl
            · rw [e2]; simp only [List.map_append, List.map_cons, List.map_nil, List.length_append, List.length_cons, List.length_nil, flat_append, ivs_append1, flat_one1]; exact (hst.sub (.cons _ (.cons_cons _ (.cons_cons _ (.cons _ (.cons_cons _ (.cons_cons _ (.cons_cons _ (.cons_cons _ (.cons_cons _ (.refl _)))))))))))
          refine hst.dw 2 [] (T0 [0,1,2,3,4,5,6,7,8,9,10,14,15,16,17] (.alt 11 (.alt 12 (.alt 13 (T1 [18,19] (T0 [20,21] .nil)) (T1 [18,13,19] (T0 [20,21] .nil))) (T1 [18,12,13,19] (T0 [20,21] .nil))) (T1 [18,11,12,13,19] (T0 [20,21] .nil)))) rfl (by kernel_rfl) rfl (by kernel_rfl) fun wd hst => ?_; refine Drw.q rfl (hst.cx 2) (Y.moveS rfl)<|Drw.q rfl (hst.cx 2) (Y.moveP rfl)<|Drw.q rfl (hst.cx 2) (Y.nilCheck rfl)<|Drw.q rfl (hst.cx 2) (Y.fieldAddr fa158_0 rfl)<|Drw.q rfl (hst.cx 2) (Y.fieldAddr fa60_0 rfl)<|Drw.q rfl (hst.cx 2) (Y.loadA 5 isAgg23 sizeOf23 rfl rfl rfl rfl)<|Drw.q rfl (hst.cx 2) (Y.fieldAddr fa138_0 rfl)<|Drw.q rfl (hst.cx 2) (Y.fieldAddr fa103_2 rfl)<|Drw.q rfl (hst.cx 2) (Y.loadA 0 isAgg53 sizeOf53 rfl rfl rfl rfl)<|Drw.q rfl (hst.cx 2) (Y.fieldAddr fa138_1 rfl)<|Drw.q rfl (hst.cx 2) (Y.load 0 isAgg3 rfl rfl rfl)<|Drw.q rfl (hst.cx 2) (Y.moveS rfl)<|Drw.q rfl (hst.cx 2) (Y.fieldAddr fa138_0 rfl)<|Drw.q rfl (hst.cx 2) (Y.fieldAddr fa103_3 rfl)<|Drw.q rfl (hst.cx 2) (Y.load 0 isAgg3 rfl rfl rfl)<|?_; refine Drw.alts (Alts.more ?_ (Alts.one ?_))
          · refine One.ww rfl (X.ret cf119 (way_any p _ _ _ _ _ _ _ _ hst ) rfl fun w48 hst => ⟨(hst.cx 2), ?_⟩); refine Drw.alts (Alts.more ?_ (Alts.one ?_))
            · refine One.ww rfl (X.lit1 hst underlying228 sizeOf53 zeroValue53 rfl rfl rfl fun p49 w49 hst => ⟨(hst.cx 3), ?_⟩); refine Drw.alts (Alts.more ?_ (Alts.one ?_))
              · refine One.ww rfl (X.app hst 1 0 underlying228 info53 rfl rfl rfl rfl rfl rfl rfl rfl (by (try dsimp only); unfold maxLen; omega) (by (try dsimp only); omega) fun A50 c50 w50 hst => ⟨(hst.cx 3), ?_⟩); refine Drw.ww rfl (X.lits hst underlying24 sizeOf3 zeroValue3 (by rfl) (by rfl) (by rfl) [.int _ _] (by rfl) (by rfl) fun p55 w55 hst => ⟨(hst.cx 4), ?_⟩); refine Drw.ww rfl (X.app hst 3 0 underlying24 info3 rfl rfl rfl rfl rfl rfl rfl rfl (by (try dsimp only); unfold maxLen; omega) (by (try dsimp only); omega) fun A56 c56 w56 hst => ⟨(hst.cx 4), ?_⟩); refine Drw.q rfl (hst.cx 4) (Y.assignS rfl)<|Drw.q rfl (hst.cx 4) (Y.assignS rfl)<|Drw.done<|?_; exact ⟨((A50, c50), (A56, c56)), ⟨rfl, rfl, trivial⟩, ⟨rfl, rfl, rfl, rfl, rfl, rfl, rfl, rfl, trivial⟩, (hst.dr 2)⟩
              · refine One.ww rfl (X.lits hst underlying24 sizeOf3 zeroValue3 (by rfl) (by rfl) (by rfl) [.int _ _] (by rfl) (by rfl) fun p55 w55 hst => ⟨(hst.cx 4), ?_⟩); refine Drw.ww rfl (X.app hst 2 1 underlying228 info53 rfl rfl rfl rfl rfl rfl rfl rfl (by (try dsimp only); unfold maxLen; omega) (by (try dsimp only); omega) fun A50 c50 w50 hst => ⟨(hst.cx 4), ?_⟩); refine Drw.ww rfl (X.app hst 3 0 underlying24 info3 rfl rfl rfl rfl rfl rfl rfl rfl (by (try dsimp only); unfold maxLen; omega) (by (try dsimp only); omega) fun A56 c56 w56 hst => ⟨(hst.cx 4), ?_⟩); refine Drw.q rfl (hst.cx 4) (Y.assignS rfl)<|Drw.q rfl (hst.cx 4) (Y.assignS rfl)<|Drw.done<|?_; exact ⟨((A50, c50), (A56, c56)), ⟨rfl, rfl, trivial⟩, ⟨rfl, rfl, rfl, rfl, rfl, rfl, rfl, rfl, trivial⟩, (hst.dr 2)⟩
            · refine One.ww rfl (X.lits hst underlying24 sizeOf3 zeroValue3 (by rfl) (by rfl) (by rfl) [.int _ _] (by rfl) (by rfl) fun p55 w55 hst => ⟨(hst.cx 3), ?_⟩); refine Drw.ww rfl (X.lit1 hst underlying228 sizeOf53 zeroValue53 rfl rfl rfl fun p49 w49 hst => ⟨(hst.cx 4), Drw.ww rfl (X.app hst 2 0 underlying228 info53 rfl rfl rfl rfl rfl rfl rfl rfl (by (try dsimp only); unfold maxLen; omega) (by (try dsimp only); omega) fun A50 c50 w50 hst => ⟨(hst.cx 4), ?_⟩)⟩); refine Drw.ww rfl (X.app hst 3 1 underlying24 info3 rfl rfl rfl rfl rfl rfl rfl rfl (by (try dsimp only); unfold maxLen; omega) (by (try dsimp only); omega) fun A56 c56 w56 hst => ⟨(hst.cx 4), ?_⟩); refine Drw.q rfl (hst.cx 4) (Y.assignS rfl)<|Drw.q rfl (hst.cx 4) (Y.assignS rfl)<|Drw.done<|?_; exact ⟨((A50, c50), (A56, c56)), ⟨rfl, rfl, trivial⟩, ⟨rfl, rfl, rfl, rfl, rfl, rfl, rfl, rfl, trivial⟩, (hst.dr 2)⟩
          · refine One.ww rfl (X.lits hst underlying24 sizeOf3 zeroValue3 (by rfl) (by rfl) (by rfl) [.int _ _] (by rfl) (by rfl) fun p55 w55 hst => ⟨(hst.cx 3), ?_⟩); refine Drw.ww rfl (X.ret cf119 (way_any p _ _ _ _ _ _ _ _ hst ) rfl fun w48 hst => ⟨(hst.cx 3), Drw.ww rfl (X.lit1 hst underlying228 sizeOf53 zeroValue53 rfl rfl rfl fun p49 w49 hst => ⟨(hst.cx 4), Drw.ww rfl (X.app hst 2 0 underlying228 info53 rfl rfl rfl rfl rfl rfl rfl rfl (by (try dsimp only); unfold maxLen; omega) (by (try dsimp only); omega) fun A50 c50 w50 hst => ⟨(hst.cx 4), ?_⟩)⟩)⟩); refine Drw.ww rfl (X.app hst 3 1 underlying24 info3 rfl rfl rfl rfl rfl rfl rfl rfl (by (try dsimp only); unfold maxLen; omega) (by (try dsimp only); omega) fun A56 c56 w56 hst => ⟨(hst.cx 4), ?_⟩); refine Drw.q rfl (hst.cx 4) (Y.assignS rfl)<|Drw.q rfl (hst.cx 4) (Y.assignS rfl)<|Drw.done<|?_; exact ⟨((A50, c50), (A56, c56)), ⟨rfl, rfl, trivial⟩, ⟨rfl, rfl, rfl, rfl, rfl, rfl, rfl, rfl, trivial⟩, (hst.dr 2)⟩
      refine W.region rfl<|hst.y rfl (Y.fieldAddr fa138_0 rfl)<|hst.y rfl (Y.fieldAddr fa103_5 rfl)<|hst.yb rfl (Y.cast (Y.load 0 isAgg4 rfl rfl rfl) (boolD _)) (fun b29 hb29 => hst.y rfl (Y.moveB rfl)<|?_); cases b29
      · replace hb29 := dF hb29; refine Ops.nn rfl<|Ops.nn rfl<|Ops.nn rfl<|Ops.nn rfl<|Ops.nn rfl<|hst.y rfl (Y.pB rfl rfl)<|Ops.done rfl<|?_; exact ⟨_, ⟨rfl, trivial⟩, ⟨rfl, rfl, rfl, rfl, rfl, rfl, rfl, rfl, rfl, rfl, trivial⟩, (decide_eq_false (fun h => hb29 h.1)).symm, hst⟩
      · replace hb29 := dT hb29; refine hst.y rfl (Y.fieldAddr fa138_0 rfl)<|hst.y rfl (Y.fieldAddr fa103_2 rfl)<|hst.y rfl (Y.loadA 0 isAgg53 sizeOf53 rfl rfl rfl rfl)<|Ops.ww rfl (X.retB cf36 (empty_any _ _ _ _ _ _ _ hst ) rfl fun b34 w34 hb34 hst => ?_); cases b34
        · replace hb34 := dF hb34; refine hst.y rfl (Y.not rfl)<|hst.y rfl (Y.pB rfl rfl)<|Ops.done rfl<|?_; exact ⟨_, ⟨rfl, trivial⟩, ⟨rfl, rfl, rfl, rfl, rfl, rfl, rfl, rfl, rfl, rfl, trivial⟩, (decide_eq_true ⟨hb29, hb34⟩).symm, hst⟩
        · replace hb34 := dT hb34; refine hst.y rfl (Y.not rfl)<|hst.y rfl (Y.pB rfl rfl)<|Ops.done rfl<|?_; exact ⟨_, ⟨rfl, trivial⟩, ⟨rfl, rfl, rfl, rfl, rfl, rfl, rfl, rfl, rfl, rfl, trivial⟩, (decide_eq_false (fun h => h.2 hb34)).symm, hst⟩
end Go.Proofs.YtaanjifekgfemaaGreat.Cl
end
section
namespace Go.Proofs.YtaanjifekgfemaaGreat.Cl
open Tryz
open Go.RowKit Go.Proofs.YtaanjifekgfemaaGreat.K Go.Proofs.YtaanjifekgfemaaGreat.W
def knownK (me : Int) (es : NT) (clock : Nat) (l : List Hd) : KS := knownF me ⟨es, clock, []⟩ l
def lostS (p : Par) (s : Stt) (ticks : Int) : Stt := { s with lo := (hold p ⟨s.lo, s.hi⟩ ticks).lo, hi := (hold p ⟨s.lo, s.hi⟩ ticks).hi, held := moreHeld s.held, hops := p.D + 1, good := false }
def folOk (p : Par) (l : List Hd) : Prop := (choose1 p (msgsF p l)).isSome = true
instance (p : Par) (l : List Hd) : Decidable (folOk p l) := by unfold folOk; infer_instance
def node1 (p : Par) (l : List Hd) (s : Stt) (tab : List (Int × Int)) : Stt := if coreOk p l then coreS p l s tab else followS p l s
def nodeNext (p : Par) (l : List Hd) (s : Stt) (ticks : Int) (tab : List (Int × Int)) : Stt := if coreOk p l ∨ folOk p l then node1 p l s tab else lostS p s ticks
def hearStep (p : Par) (s : Stt) (h : Hd) : Stt := if h.m.kind = 2 ∧ h.m.good = true then hearS p s ⟨h.m.time, h.m.num⟩ else s
def hearAll (p : Par) (s : Stt) (l : List Hd) : Stt := l.foldl (hearStep p) s
theorem hearAll_snoc (p : Par) (s : Stt) (l : List Hd) (k : Nat) (h : k < l.length) : hearAll p s (l.take (k + 1)) = hearStep p (hearAll p s (l.take k)) l[k] := by
  unfold hearAll; rw [List.take_succ_eq_append_getElem h, List.foldl_append]; rfl
def nodeBeat (p : Par) (l : List Hd) (s : Stt) (ticks : Int) (tab : List (Int × Int)) : Stt := hearAll p (stepS p s ticks (nodeNext p l s ticks tab)) l
theorem hearAll_tab (p : Par) (s : Stt) (l : List Hd) : (hearAll p s l).tab = s.tab := by
  unfold hearAll
  induction l generalizing s with
  | nil => rfl
  | cons x l ih =>
    rw [List.foldl_cons, ih]; unfold hearStep; split <;> rfl
theorem nodeBeat_tab (p : Par) (l : List Hd) (s : Stt) (ticks : Int) (tab : List (Int × Int)) : (nodeBeat p l s ticks tab).tab = (stepS p s ticks (nodeNext p l s ticks tab)).tab := hearAll_tab ..
def nodeMsg (p : Par) (me : Int) (l : List Hd) (s : Stt) (ticks : Int) (tab : List (Int × Int)) : M := sayM p (nodeBeat p l s ticks tab) 2 me false ⟨0, 0⟩
theorem tick_n {c : Sta} (now : Int) (h : c.n ≤ 1073741824) : (c.tick now).n ≤ 1073741824 := by
  unfold Sta.tick; split
  · exact (by decide : (0 : Int) ≤ 1073741824)
  · unfold Sta.next; split
    · exact (by decide : (0 : Int) ≤ 1073741824)
    · show max c.n 0 + 1 ≤ _; omega
theorem next_n (c : Sta) : c.next.n ≤ 1073741824 := by
  unfold Sta.next; split
  · exact (by decide : (0 : Int) ≤ 1073741824)
  · rename_i h; show max c.n 0 + 1 ≤ _; omega
theorem hearS_n {p : Par} {s : Stt} (x : Sta) (h : s.sn ≤ 1073741824) : (hearS p s x).sn ≤ 1073741824 := by
  show (s.sta.hear s.time x (mostS p s)).n ≤ _; unfold Sta.hear; split
  · exact tick_n _ h
  · exact next_n _
theorem hearAll_n {p : Par} {s : Stt} (l : List Hd) (h : s.sn ≤ 1073741824) : (hearAll p s l).sn ≤ 1073741824 := by
  unfold hearAll
  induction l generalizing s with
  | nil => exact h
  | cons x l ih =>
    rw [List.foldl_cons]; refine ih ?_; unfold hearStep; split
    · exact hearS_n _ h
    · exact h
theorem stepS_n30 (p : Par) (s : Stt) (ticks : Int) (nx : Stt) : (stepS p s ticks nx).sn ≤ 1073741824 := by
  have h : (beatS p s ticks nx).sn ≤ 1073741824 := (tick_right (mend_right s.sta (slewS p s ticks nx) (mostS p (midS p s ticks nx))) (slewS p s ticks nx)).2.2.2; unfold stepS; split
  · exact h
  · exact h
theorem nodeNext_tab {p : Par} {l : List Hd} {s : Stt} {ticks : Int} {tab : List (Int × Int)} (hs : TabFit s.tab) (ht : coreTab p l s tab) (hl : ∀ h ∈ l, TabFit h.m.tab) : TabFit (nodeNext p l s ticks tab).tab := by
  have h1 : TabFit tab := by
    rcases ht with rfl | ⟨h, hh, rfl⟩
    · exact hs
    · exact hl h ((told_sublist p (-1) l).mem (coreF_mem hh).1)
  have h2 : TabFit (followS p l s).tab := by
    unfold followS
    cases hc : choose1 p (msgsF p l) with
    | none => exact hs
    | some h =>
      dsimp only [followH]; split
      · rename_i hg; exact goodTab_fit hg
      · exact hs
  unfold nodeNext node1; split
  · split
    · exact h1
    · exact h2
  · exact hs
end Go.Proofs.YtaanjifekgfemaaGreat.Cl
end
section
namespace Go.Proofs.YtaanjifekgfemaaGreat.Cl
open Tryz
open Go.RowKit Go.Proofs.YtaanjifekgfemaaGreat.K Go.Proofs.YtaanjifekgfemaaGreat.W
attribute [local irreducible] bound clip adds sub neg mag mulp mul maxs
theorem fa103_9 : FA 103 9 11 := fun _ _ => by simp [Instr.fieldAt, Instr.sureAddr, go_sem]
theorem cf174 : CF 174 := fun _ _ => by simp [go_sem]
theorem cf175 : CF 175 := fun _ _ => by simp [go_sem]
theorem cf176 : CF 176 := fun _ _ => by simp [go_sem]
theorem cf177 : CF 177 := fun _ _ => by simp [go_sem]
theorem cf178 : CF 178 := fun _ _ => by simp [go_sem]
theorem cf179 : CF 179 := fun _ _ => by simp [go_sem]
set_option maxHeartbeats 4000000 in
theorem nbeat_any (tbl : List Int) (htl : tbl.length = 20) (b : Nat) (T : TypeId) (p : Par) (hp : p.Ok) (s : Stt) (A : Option Addr) (cap : Nat) (me : Int) (tb mb : Nat) (es : NT) (clock : Nat) (i : Inp) (hT : TabFit s.tab) (hne : NearFit es) (hl : i.heard.length ≤ 1000000) (hasc : Asc i.heard) (w0 w : World) (F0 : List Nat) (L G : List Res) (hst : St w0 F0 w (frR b T p s A cap [.int .i64 me, .pointer (some ⟨tb, 0, none⟩)] :: cellsR tb [.map (some mb)] 204 :: mapR ikE nrV mb (es) (clock) :: L) G) (hpw : powR tbl ∈ G)
    (hrS : Rds [] G (.slice A (s.tab).length cap) (s.tab).length (lcs (s.tab))) (hrH : Rds [] G (.slice i.HA i.heard.length i.hcap) i.heard.length (flat hdC i.heard)) (hfit : HdFit G i.heard) :
    Calls Tryz.prog 173 #[.pointer (some ⟨b, 0, none⟩), .agg (inpC i).toArray] w fun e w' => ∃ tab A' c' A2 c2 G', e = .returned (.agg (msgC (nodeMsg p me (knownK me es clock i.heard).out s i.ticks tab) A2 c2).toArray) ∧ coreTab p (knownK me es clock i.heard).out s tab ∧ (∀ r ∈ G, r ∈ G') ∧ Rds [] G' (.slice A' ((nodeBeat p (knownK me es clock i.heard).out s i.ticks tab).tab).length c') ((nodeBeat p (knownK me es clock i.heard).out s i.ticks tab).tab).length (lcs ((nodeBeat p (knownK me es clock i.heard).out s i.ticks tab).tab)) ∧ Rds [] G' (.slice A2 ((nodeBeat p (knownK me es clock i.heard).out s i.ticks tab).tab).length c2) ((nodeBeat p (knownK me es clock i.heard).out s i.ticks tab).tab).length (lcs ((nodeBeat p (knownK me es clock i.heard).out s i.ticks tab).tab)) ∧ St w0 F0 w' (frR b T p (stampS (nodeBeat p (knownK me es clock i.heard).out s i.ticks tab)) A' c' [.int .i64 me, .pointer (some ⟨tb, 0, none⟩)] :: cellsR tb [.map (some mb)] 204 :: mapR ikE nrV mb (tickT 2 (knownK me es clock i.heard).es) (knownK me es clock i.heard).clock :: L) G' := by
  have hsub := knownF_sublist me ⟨es, clock, []⟩ i.heard rfl; have hkl : (knownK me es clock i.heard).out.length ≤ 1000000 := Nat.le_trans hsub.length_le hl; have hka : Asc (knownK me es clock i.heard).out := hasc.sublist hsub; have hkf : HdFit G (knownK me es clock i.heard).out := fun h hh => hfit h (hsub.mem hh); have hkn : NearFit (knownK me es clock i.heard).es := hne.known (k := ⟨es, clock, []⟩) me i.heard; have hpD := hp.D; have hkk : (knownF me ⟨es, clock, []⟩ i.heard).out.length = (knownK me es clock i.heard).out.length := rfl; refine W.func func173 rfl ntmps173 rfl<|W.sr rfl<|Ops.ww rfl (X.boxA hst rfl fun p3 w3 hst => Ops.ww rfl (X.allocA hst zeroValue103 fun p4 w4 hst => Ops.done rfl<|W.seq rfl<|W.sr rfl<|hst.y rfl (Y.moveP rfl)<|hst.y rfl (Y.isNil underlying154 rfl rfl)<|Ops.done rfl<|W.condF rfl rfl<|W.skip rfl<|W.sr rfl<|hst.y rfl (Y.moveP rfl)<|hst.y rfl (Y.fieldAddr fa99_1 rfl)<|hst.y rfl (Y.load 1 isAgg97 rfl rfl rfl)<|Ops.ww rfl (X.call cf174 rfl<|?_))); refine use_call (known_any b T p s A cap me tb mb es clock i.heard hl i.HA i.hcap _ _ _ _ _ (hst.up_4.up_4.up_4) hrH) rfl ?_; clear hst; rintro e w16 ⟨A16, c16, rfl, hst⟩; refine ⟨_, rfl, ?_⟩; refine hst.y rfl (Y.assignS rfl)<|Ops.ds rfl rfl<|hst.y rfl (Y.moveP rfl)<|hst.y rfl (Y.nilCheck rfl)<|hst.y rfl (Y.fieldAddr fa158_2 rfl)<|hst.y rfl (Y.load 1 isAgg156 rfl rfl rfl)<|Ops.ww rfl (X.call cf175 rfl<|?_); refine use_call (tick_any2 tb mb (knownK me es clock i.heard).es (knownK me es clock i.heard).clock 2 hkn _ _ _ _ _ (hst.up_3.up_3)) rfl ?_; clear hst; rintro e w21 ⟨v21, rfl, hst⟩; replace hst := hst.dn3.dn3; refine ⟨_, rfl, ?_⟩; refine Ops.ds rfl rfl<|hst.y rfl (Y.moveP rfl)<|hst.y rfl (Y.moveS rfl)<|hst.y rfl (Y.moveP rfl)<|hst.y rfl (Y.nilCheck rfl)<|hst.y rfl (Y.fieldAddr fa158_0 rfl)<|hst.y rfl (Y.fieldAddr fa60_1 rfl)<|hst.y rfl (Y.loadA 1 isAgg57 sizeOf57 rfl rfl rfl rfl)<|Ops.ww rfl (X.call cf176 rfl<|?_); refine use_call (core_any tbl htl b T p s A cap _ (knownK me es clock i.heard).out hkl hka A16 c16 s hT A cap _ _ _ _ _ hst.up_1 hpw (Rds.rowL 0 rfl) hkf hrS) rfl ?_; clear hst; rintro e w30 ⟨tab, b32, A32, c32, G1, rfl, hb32, htab, hG1, hr32, hst⟩; replace hst := hst.dn1; have hkf1 : HdFit G1 (knownK me es clock i.heard).out := fun h hh => ⟨(hkf h hh).1, (hkf h hh).2.moreG hG1⟩; have hrS1 := hrS.moreG hG1; refine ⟨_, rfl, hst.y rfl (Y.moveU rfl)<|hst.y rfl (Y.extract rfl rfl)<|hst.y rfl (Y.extract rfl rfl)<|Ops.ww rfl (X.allocA hst zeroValue57 fun p6 w6 hst => Ops.ww rfl (X.storeS hst 0 sizeOf57 rfl rfl rfl rfl rfl (lZ rfl) rfl rfl fun w5_12 hst => hst.y rfl (Y.assignB rfl)<|Ops.done rfl<|W.seq rfl<|?_))⟩; refine W.cut [(0, .pointer _), (3, .pointer _), (4, .pointer _), (5, .slice _ _ _), (6, .pointer _)] (fun x : Bool × (Option Addr × Nat) => [(7, .bool x.1)]) (fun x w => (x.1 = decide (coreOk p (knownK me es clock i.heard).out ∨ folOk p (knownK me es clock i.heard).out) ∧ Rds [] G1 (.slice x.2.1 ((node1 p (knownK me es clock i.heard).out s tab).tab).length x.2.2) ((node1 p (knownK me es clock i.heard).out s tab).tab).length (lcs ((node1 p (knownK me es clock i.heard).out s tab).tab))) ∧ St w0 F0 w (cellsR p6 (sttC (node1 p (knownK me es clock i.heard).out s tab) x.2.1 x.2.2) 57 :: rowR (.slice A16 (knownK me es clock i.heard).out.length c16) 138 15 (knownK me es clock i.heard).out.length (flat hdC (knownK me es clock i.heard).out) :: frR b T p (s) A cap [.int .i64 me, .pointer (some ⟨tb, 0, none⟩)] :: cellsR tb [.map (some mb)] 204 :: mapR ikE nrV mb (tickT 2 (knownK me es clock i.heard).es) (knownK me es clock i.heard).clock :: cellsR p4 [.int .i64 0, .int .i64 0, .int .i64 0, .int .i64 0, .int .i64 0, .int .i64 0, .bool false, .bool false, .int .i64 0, .int .i64 0, .int .i64 0, .int .i64 0, .int .i64 0, .slice none 0 0] 103 :: cellsR p3 (inpC i) 99 :: L) G1) ⟨rfl, rfl, rfl, rfl, rfl, trivial⟩ ?_ ?_
  rotate_left
  · clear hst; rintro ⟨b7, ⟨A6, c6⟩⟩ j w7 ⟨⟨hb7, hr6⟩, hst⟩; dsimp only at hb7 hr6; refine W.seq rfl ?_; refine W.cut [(0, .pointer _), (3, .pointer _), (4, .pointer _), (5, .slice _ _ _), (6, .pointer _)] (fun _ : Option Addr × Nat => []) (fun x w => Rds [] G1 (.slice x.1 ((nodeNext p (knownK me es clock i.heard).out s i.ticks tab).tab).length x.2) ((nodeNext p (knownK me es clock i.heard).out s i.ticks tab).tab).length (lcs ((nodeNext p (knownK me es clock i.heard).out s i.ticks tab).tab)) ∧ St w0 F0 w (cellsR p6 (sttC ((nodeNext p (knownK me es clock i.heard).out s i.ticks tab)) x.1 x.2) 57 :: rowR (.slice A16 (knownK me es clock i.heard).out.length c16) 138 15 (knownK me es clock i.heard).out.length (flat hdC (knownK me es clock i.heard).out) :: frR b T p (s) A cap [.int .i64 me, .pointer (some ⟨tb, 0, none⟩)] :: cellsR tb [.map (some mb)] 204 :: mapR ikE nrV mb (tickT 2 (knownK me es clock i.heard).es) (knownK me es clock i.heard).clock :: cellsR p4 [.int .i64 0, .int .i64 0, .int .i64 0, .int .i64 0, .int .i64 0, .int .i64 0, .bool false, .bool false, .int .i64 0, .int .i64 0, .int .i64 0, .int .i64 0, .int .i64 0, .slice none 0 0] 103 :: cellsR p3 (inpC i) 99 :: L) G1) ⟨rfl, rfl, rfl, rfl, rfl, trivial⟩ ?_ ?_
    rotate_left
    · clear hst; rintro ⟨A7, c7⟩ j w8 ⟨hr7, hst⟩; dsimp only at hr7; refine W.seq rfl ?_; have hnt : TabFit (nodeNext p (knownK me es clock i.heard).out s i.ticks tab).tab := nodeNext_tab hT htab (fun h hh => (hkf h hh).1); refine hst.dv [6] (T0 [0,1,2,3,4,5] (.op 6 1 .nil)) rfl (by kernel_rfl) rfl (by kernel_rfl) fun wd hst => ?_; refine hst.z rfl (Y.moveP rfl)<|hst.z rfl (Y.nilCheck rfl)<|hst.z rfl (Y.fieldAddr fa158_0 rfl)<|hst.z rfl (Y.fieldAddr fa99_0 rfl)<|hst.z rfl (Y.load 6 isAgg3 rfl rfl rfl)<|hst.z rfl (Y.loadA 0 isAgg57 sizeOf57 rfl rfl rfl rfl)<|Drw.z rfl rfl rfl rfl (X.call cf123 rfl<|?_); refine use_call (step_any b T p s A cap _ i.ticks (nodeNext p (knownK me es clock i.heard).out s i.ticks tab) A7 c7 _ _ _ _ _ hst.up_2 hnt.1 hnt.2 hr7) rfl ?_; clear hst; rintro e w90 ⟨A90, c90, rfl, hst⟩; replace hst := hst.dn2; refine ⟨_, rfl, ?_⟩; refine Drw.done<|W.seq rfl<|W.seq rfl<|?_; have hbt : TabFit (nodeBeat p (knownK me es clock i.heard).out s i.ticks tab).tab := by rw [nodeBeat_tab]; exact stepS_fitT p s i.ticks _
      have hbn : (nodeBeat p (knownK me es clock i.heard).out s i.ticks tab).sn ≤ 9223372036854775806 := by
        have h1 : (nodeBeat p (knownK me es clock i.heard).out s i.ticks tab).sn ≤ 1073741824 := hearAll_n _ (stepS_n30 p s i.ticks _); omega
      refine W.region rfl<|hst.y rfl (Y.moveS rfl)<|hst.y rfl (Y.lenS underlying97 rfl)<|hst.y rfl (Y.moveI rfl)<|Ops.done rfl<|W.block rfl<|?_; refine W.loop (γ := Nat) [(0, .pointer _), (4, .pointer _), (91, .slice _ _ _), (92, .int _ _)] (fun k => [(93, .int .i64 (k : Int))]) (fun k w => k ≤ (knownK me es clock i.heard).out.length ∧ St w0 F0 w (cellsR p6 (sttC ((nodeNext p (knownK me es clock i.heard).out s i.ticks tab)) A7 c7) 57 :: rowR (.slice A16 (knownK me es clock i.heard).out.length c16) 138 15 (knownK me es clock i.heard).out.length (flat hdC (knownK me es clock i.heard).out) :: frR b T p ((hearAll p (stepS p s i.ticks (nodeNext p (knownK me es clock i.heard).out s i.ticks tab)) ((knownK me es clock i.heard).out.take k))) A90 c90 [.int .i64 me, .pointer (some ⟨tb, 0, none⟩)] :: cellsR tb [.map (some mb)] 204 :: mapR ikE nrV mb (tickT 2 (knownK me es clock i.heard).es) (knownK me es clock i.heard).clock :: cellsR p4 [.int .i64 0, .int .i64 0, .int .i64 0, .int .i64 0, .int .i64 0, .int .i64 0, .bool false, .bool false, .int .i64 0, .int .i64 0, .int .i64 0, .int .i64 0, .int .i64 0, .slice none 0 0] 103 :: cellsR p3 (inpC i) 99 :: L) (rowR (.slice A90 (stepS p s i.ticks (nodeNext p (knownK me es clock i.heard).out s i.ticks tab)).tab.length c90) 114 2 (stepS p s i.ticks (nodeNext p (knownK me es clock i.heard).out s i.ticks tab)).tab.length (lcs (stepS p s i.ticks (nodeNext p (knownK me es clock i.heard).out s i.ticks tab)).tab) :: G1)) (fun k => (knownK me es clock i.heard).out.length - k) (0) rfl ⟨rfl, rfl, rfl, rfl, trivial⟩ ?_ ?_ ?_
      · exact ⟨rfl, trivial⟩
      · exact ⟨by omega, hst⟩
      · clear hst; rintro k j w12 ⟨hk, hst⟩; refine W.sr rfl<|hst.yb rfl (Y.lss rfl rfl) (fun b94 hb94 => Ops.done rfl<|W.seq rfl<|?_); cases b94
        · replace hb94 := dF hb94; refine W.condF rfl rfl<|W.exit rfl<|W.seq rfl<|?_; obtain rfl : k = (knownK me es clock i.heard).out.length := by omega
          have e1 : (hearAll p (stepS p s i.ticks (nodeNext p (knownK me es clock i.heard).out s i.ticks tab)) ((knownK me es clock i.heard).out.take (knownK me es clock i.heard).out.length)) = (nodeBeat p (knownK me es clock i.heard).out s i.ticks tab) := by unfold nodeBeat; rw [List.take_length]
          rw [e1] at hst; have hrb : Rds [] (rowR (.slice A90 (stepS p s i.ticks (nodeNext p (knownK me es clock i.heard).out s i.ticks tab)).tab.length c90) 114 2 (stepS p s i.ticks (nodeNext p (knownK me es clock i.heard).out s i.ticks tab)).tab.length (lcs (stepS p s i.ticks (nodeNext p (knownK me es clock i.heard).out s i.ticks tab)).tab) :: G1) (.slice A90 (nodeBeat p (knownK me es clock i.heard).out s i.ticks tab).tab.length c90) (nodeBeat p (knownK me es clock i.heard).out s i.ticks tab).tab.length (lcs (nodeBeat p (knownK me es clock i.heard).out s i.ticks tab).tab) := by rw [nodeBeat_tab]; exact Rds.rowG 0 rfl
          refine hst.dv [8,9] (T0 [0,1,2,3,4,5,6,7] (T1 [8,9] .nil)) rfl (by kernel_rfl) rfl (by kernel_rfl) fun wd hst => ?_; refine hst.z rfl (Y.moveP rfl)<|hst.z rfl (Y.nilCheck rfl)<|hst.z rfl (Y.fieldAddr fa158_0 rfl)<|hst.z rfl (Y.moveP rfl)<|hst.z rfl (Y.nilCheck rfl)<|hst.z rfl (Y.fieldAddr fa158_1 rfl)<|hst.z rfl (Y.load 2 isAgg3 rfl rfl rfl)<|hst.z rfl (bd53_ rfl)<|Drw.z rfl rfl rfl rfl (X.call cf124 rfl<|?_); refine use_call (say_any b T p (nodeBeat p (knownK me es clock i.heard).out s i.ticks tab) A90 c90 _ 2 me false 0 0 hbt hbn _ _ _ _ _ hst.up_2 hrb) rfl ?_; clear hst; rintro e w122 ⟨A22, c22, rfl, hst⟩; replace hst := hst.dn2; refine ⟨_, rfl, ?_⟩; refine Drw.z rfl rfl rfl rfl (X.storeS hst 5 sizeOf103 rfl rfl rfl rfl rfl (lZ rfl) rfl rfl fun w18_9 hst => Drw.done<|W.ret rfl<|⟨_, Rslt.cell results173 rfl (res_at isAgg103 sizeOf103 5 hst rfl rfl), ?_⟩); exact ⟨tab, A90, c90, A22, c22, _, rfl, htab, fun r hr => .tail _ (.tail _ (hG1 r hr)), hrb.consG _, Rds.rowG 0 rfl, (hst.sub (.cons _ (.cons _ (.cons_cons _ (.cons_cons _ (.cons_cons _ (.cons _ (.cons _ (.refl _)))))))))⟩
        · replace hb94 := dT hb94; refine W.condT rfl rfl<|W.skip rfl<|W.seq rfl<|W.block rfl<|W.seq rfl<|?_; have hk1 : k < (knownK me es clock i.heard).out.length := by omega
          have hhn : (hearAll p (stepS p s i.ticks (nodeNext p (knownK me es clock i.heard).out s i.ticks tab)) ((knownK me es clock i.heard).out.take k)).sn ≤ 9223372036854775806 := by
            have h1 : (hearAll p (stepS p s i.ticks (nodeNext p (knownK me es clock i.heard).out s i.ticks tab)) ((knownK me es clock i.heard).out.take k)).sn ≤ 1073741824 := hearAll_n _ (stepS_n30 p s i.ticks _); omega
          refine W.region rfl<|hst.y rfl (Y.indexAddr underlying97 sizeOf138 rfl rfl ((Rds.sl (Rds.rowL 1 (by rfl)) hst).ne (flat_pos hdC_len (by decide) (by omega))) (by omega))<|?_; refine hst.y rfl (Y.loadSlA isAgg138 sizeOf138 rfl (Rds.rowL 1 rfl) (flat_atI hdC_len (knownK me es clock i.heard).out k hk1) (hdC_len _))<|Ops.ww rfl (X.allocA hst zeroValue138 fun p9 w9 hst => Ops.ww rfl (X.storeS hst 0 sizeOf138 rfl rfl rfl rfl rfl (lZ rfl) rfl rfl fun w14_3 hst => Ops.done rfl<|W.seq rfl<|?_)); refine W.cut [(0, .pointer _), (4, .pointer _), (9, .pointer _), (91, .slice _ _ _), (92, .int _ _), (93, .int _ _)] (fun x : Bool => [(105, .bool x)]) (fun x w => x = decide ((knownK me es clock i.heard).out[k].m.kind = 2 ∧ (knownK me es clock i.heard).out[k].m.good = true) ∧ St w0 F0 w (cellsR p9 (hdC (knownK me es clock i.heard).out[k]) 138 :: cellsR p6 (sttC ((nodeNext p (knownK me es clock i.heard).out s i.ticks tab)) A7 c7) 57 :: rowR (.slice A16 (knownK me es clock i.heard).out.length c16) 138 15 (knownK me es clock i.heard).out.length (flat hdC (knownK me es clock i.heard).out) :: frR b T p ((hearAll p (stepS p s i.ticks (nodeNext p (knownK me es clock i.heard).out s i.ticks tab)) ((knownK me es clock i.heard).out.take k))) A90 c90 [.int .i64 me, .pointer (some ⟨tb, 0, none⟩)] :: cellsR tb [.map (some mb)] 204 :: mapR ikE nrV mb (tickT 2 (knownK me es clock i.heard).es) (knownK me es clock i.heard).clock :: cellsR p4 [.int .i64 0, .int .i64 0, .int .i64 0, .int .i64 0, .int .i64 0, .int .i64 0, .bool false, .bool false, .int .i64 0, .int .i64 0, .int .i64 0, .int .i64 0, .int .i64 0, .slice none 0 0] 103 :: cellsR p3 (inpC i) 99 :: L) (rowR (.slice A90 (stepS p s i.ticks (nodeNext p (knownK me es clock i.heard).out s i.ticks tab)).tab.length c90) 114 2 (stepS p s i.ticks (nodeNext p (knownK me es clock i.heard).out s i.ticks tab)).tab.length (lcs (stepS p s i.ticks (nodeNext p (knownK me es clock i.heard).out s i.ticks tab)).tab) :: G1)) ⟨rfl, rfl, rfl, rfl, rfl, rfl, trivial⟩ ?_ ?_
          rotate_left
          · clear hst; rintro b105 j w15 ⟨hb105, hst⟩; cases b105
            · replace hb105 := dF hb105; refine W.condF rfl rfl<|W.skip rfl<|W.region rfl<|hst.y rfl (Y.addI rfl rfl (by omega))<|hst.y rfl (Y.moveI rfl)<|Ops.done rfl<|?_; have e2 := (hearAll_snoc p (stepS p s i.ticks (nodeNext p (knownK me es clock i.heard).out s i.ticks tab)) (knownK me es clock i.heard).out k hk1).trans (if_neg hb105); exact ⟨k + 1, ⟨rfl, trivial⟩, ⟨rfl, rfl, rfl, rfl, trivial⟩, ⟨by omega, by rw [e2]; exact (hst.dr 1)⟩, by omega⟩
            · replace hb105 := dT hb105; refine W.condT rfl rfl<|W.drawn rfl (by kernel_rfl) (Ctx _ _ (_) (_)) [6] (.op 0 0 (.op 1 0 (.op 2 0 (.op 3 0 (.op 4 0 (.op 5 0 (.op 6 1 .nil))))))) rfl (by kernel_rfl) hst.drew.ctx<|?_; replace hst := hst.drew; generalize World.drew _ = wd at hst ⊢; refine hst.z rfl (Y.moveP rfl)<|hst.z rfl (Y.nilCheck rfl)<|hst.z rfl (Y.fieldAddr fa158_0 rfl)<|hst.z rfl (Y.fieldAddr fa138_0 rfl)<|hst.z rfl (Y.fieldAddr fa103_9 rfl)<|hst.z rfl (Y.loadA 0 isAgg55 sizeOf55 rfl rfl rfl rfl)<|Drw.z rfl rfl rfl rfl (X.ret cf179 (dn3 (listen_any b T p (hearAll p (stepS p s i.ticks (nodeNext p (knownK me es clock i.heard).out s i.ticks tab)) ((knownK me es clock i.heard).out.take k)) A90 c90 _ ⟨(knownK me es clock i.heard).out[k].m.time, (knownK me es clock i.heard).out[k].m.num⟩ _ _ _ _ _ hst.up_3 hhn)) rfl fun w112 hst => Drw.done<|W.region rfl<|hst.y rfl (Y.addI rfl rfl (by omega))<|hst.y rfl (Y.moveI rfl)<|Ops.done rfl<|?_); have e2 := (hearAll_snoc p (stepS p s i.ticks (nodeNext p (knownK me es clock i.heard).out s i.ticks tab)) (knownK me es clock i.heard).out k hk1).trans (if_pos hb105); exact ⟨k + 1, ⟨rfl, trivial⟩, ⟨rfl, rfl, rfl, rfl, trivial⟩, ⟨by omega, by rw [e2]; exact (hst.dr 1)⟩, by omega⟩
          refine W.region rfl<|hst.y rfl (Y.fieldAddr fa138_0 rfl)<|hst.y rfl (Y.fieldAddr fa103_0 rfl)<|hst.y rfl (Y.load 0 isAgg3 rfl rfl rfl)<|hst.yb rfl (Y.eql rfl rfl) (fun b100 hb100 => hst.y rfl (Y.moveB rfl)<|?_); cases b100
          · replace hb100 := dF hb100; refine Ops.nn rfl<|Ops.nn rfl<|Ops.nn rfl<|hst.y rfl (Y.pB rfl rfl)<|Ops.done rfl<|?_; exact ⟨_, ⟨rfl, trivial⟩, ⟨rfl, rfl, rfl, rfl, rfl, rfl, trivial⟩, (decide_eq_false (fun h => hb100 h.1)).symm, hst⟩
          · replace hb100 := dT hb100; refine hst.y rfl (Y.fieldAddr fa138_0 rfl)<|hst.y rfl (Y.fieldAddr fa103_5 rfl)<|hst.yb rfl (Y.cast (Y.load 0 isAgg4 rfl rfl rfl) (boolD _)) (fun b104 hb104 => hst.y rfl (Y.pB rfl rfl)<|Ops.done rfl<|?_); exact ⟨_, ⟨rfl, trivial⟩, ⟨rfl, rfl, rfl, rfl, rfl, rfl, trivial⟩, hb104.trans (decide_eq_decide.2 ⟨fun h => ⟨hb100, h⟩, fun h => h.2⟩), hst⟩
    refine W.sr rfl<|hst.y rfl (Y.moveB rfl)<|?_; cases b7
    · replace hb7 := dF hb7; refine hst.y rfl (Y.not rfl)<|Ops.done rfl<|W.condT rfl rfl<|W.sr rfl<|hst.y rfl (Y.moveP rfl)<|hst.y rfl (Y.nilCheck rfl)<|hst.y rfl (Y.fieldAddr fa158_0 rfl)<|hst.y rfl (Y.fieldAddr fa60_1 rfl)<|hst.y rfl (Y.loadA 2 isAgg57 sizeOf57 rfl rfl rfl rfl)<|Ops.ww rfl (X.storeS hst 0 sizeOf57 rfl rfl rfl rfl rfl (lZ rfl) rfl rfl fun w9_5 hst => Ops.done rfl<|W.drawn rfl (by kernel_rfl) (Ctx _ _ (_) (_)) [] (.op 0 0 (.op 1 0 (.op 2 0 (.op 3 0 (.op 4 0 (.op 5 0 (.op 6 0 (.op 7 0 (.op 8 0 (.op 9 0 (.op 10 0 (.op 11 0 (.op 12 0 (.op 14 0 (.op 15 0 (.op 16 0 (.op 17 0 (.op 18 0 (.op 19 0 (.op 21 0 (.op 22 0 (.op 23 0 (.op 24 0 (.op 25 0 (.op 13 1 (.op 27 0 (.op 20 1 (.op 26 1 (.op 28 1 (.op 29 0 (.op 30 1 (.op 31 0 (.op 32 1 (.op 33 0 (.op 34 1 .nil))))))))))))))))))))))))))))))))))) rfl (by kernel_rfl) (hst.drew.cx 1)<|?_); replace hst := hst.drew; generalize World.drew _ = wd at hst ⊢; refine Drw.q rfl (hst.cx 1) (Y.moveP rfl)<|Drw.q rfl (hst.cx 1) (Y.nilCheck rfl)<|Drw.q rfl (hst.cx 1) (Y.fieldAddr fa158_0 rfl)<|Drw.q rfl (hst.cx 1) (Y.fieldAddr fa60_0 rfl)<|Drw.q rfl (hst.cx 1) (Y.loadA 1 isAgg23 sizeOf23 rfl rfl rfl rfl)<|Drw.q rfl (hst.cx 1) (Y.moveP rfl)<|Drw.q rfl (hst.cx 1) (Y.nilCheck rfl)<|Drw.q rfl (hst.cx 1) (Y.fieldAddr fa158_0 rfl)<|Drw.q rfl (hst.cx 1) (Y.fieldAddr fa60_1 rfl)<|Drw.q rfl (hst.cx 1) (Y.fieldAddr fa57_0 rfl)<|Drw.q rfl (hst.cx 1) (Y.loadA 1 isAgg53 sizeOf53 rfl rfl rfl rfl)<|Drw.q rfl (hst.cx 1) (Y.fieldAddr fa99_0 rfl)<|Drw.q rfl (hst.cx 1) (Y.load 5 isAgg3 rfl rfl rfl)<|Drw.q rfl (hst.cx 1) (Y.moveP rfl)<|Drw.q rfl (hst.cx 1) (Y.nilCheck rfl)<|Drw.q rfl (hst.cx 1) (Y.fieldAddr fa158_0 rfl)<|Drw.q rfl (hst.cx 1) (Y.fieldAddr fa60_1 rfl)<|Drw.q rfl (hst.cx 1) (Y.fieldAddr fa57_3 rfl)<|Drw.q rfl (hst.cx 1) (Y.load 1 isAgg3 rfl rfl rfl)<|Drw.q rfl (hst.cx 1) (Y.moveP rfl)<|Drw.q rfl (hst.cx 1) (Y.nilCheck rfl)<|Drw.q rfl (hst.cx 1) (Y.fieldAddr fa158_0 rfl)<|Drw.q rfl (hst.cx 1) (Y.fieldAddr fa60_0 rfl)<|Drw.q rfl (hst.cx 1) (Y.loadA 1 isAgg23 sizeOf23 rfl rfl rfl rfl)<|Drw.ww rfl (X.ret cf120 (hold_any p _ _ _ _ _ _ _ _ hst ) rfl fun w66 hst => ⟨(hst.cx 1), Drw.q rfl (hst.cx 1) (Y.fieldAddr fa57_0 rfl)<|Drw.ww rfl (X.ret cf121 (more_any _ _ _ _ _ _ hst ) rfl fun w73 hst => ⟨(hst.cx 1), Drw.ww rfl (X.ret cf178 (lost_any p _ _ _ _ _ hst (by omega)) rfl fun w79 hst => ⟨(hst.cx 1), Drw.ww rfl (X.storeS hst 0 sizeOf53 rfl rfl rfl rfl rfl (lZ rfl) rfl rfl fun w10_28 hst => ⟨(hst.cx 1), Drw.q rfl (hst.cx 1) (Y.fieldAddr fa57_3 rfl)<|Drw.ww rfl (X.storeV hst 0 (.int _ _) sizeOf3 rfl rfl rfl rfl (lZ rfl) rfl rfl fun w10_30 hst => ⟨(hst.cx 1), Drw.q rfl (hst.cx 1) (Y.fieldAddr fa57_4 rfl)<|Drw.ww rfl (X.storeV hst 0 (.int _ _) sizeOf3 rfl rfl rfl rfl (lZ rfl) rfl rfl fun w10_32 hst => ⟨(hst.cx 1), Drw.q rfl (hst.cx 1) (Y.fieldAddr fa57_5 rfl)<|Drw.ww rfl (X.storeV hst 0 (.bool _) sizeOf4 rfl rfl rfl rfl (lZ rfl) rfl rfl fun w10_34 hst => ⟨(hst.cx 1), Drw.done<|?_⟩)⟩)⟩)⟩)⟩)⟩)⟩); have hq : (nodeNext p (knownK me es clock i.heard).out s i.ticks tab) = lostS p s i.ticks := if_neg hb7; exact ⟨(A, cap), trivial, ⟨rfl, rfl, rfl, rfl, rfl, trivial⟩, by rw [hq]; exact hrS1, by rw [hq]; exact hst⟩
    · replace hb7 := dT hb7; refine hst.y rfl (Y.not rfl)<|Ops.done rfl<|W.condF rfl rfl<|W.skip rfl<|?_; have hq : (nodeNext p (knownK me es clock i.heard).out s i.ticks tab) = node1 p (knownK me es clock i.heard).out s tab := if_pos hb7; exact ⟨(A6, c6), trivial, ⟨rfl, rfl, rfl, rfl, rfl, trivial⟩, by rw [hq]; exact hr6, by rw [hq]; exact hst⟩
  refine W.sr rfl<|hst.y rfl (Y.moveB rfl)<|?_; cases b32
  · replace hb32 := dF hb32; refine hst.y rfl (Y.not rfl)<|Ops.done rfl<|W.condT rfl rfl<|W.region rfl<|hst.y rfl (Y.moveP rfl)<|hst.y rfl (Y.moveS rfl)<|hst.y rfl (Y.moveP rfl)<|hst.y rfl (Y.nilCheck rfl)<|hst.y rfl (Y.fieldAddr fa158_0 rfl)<|hst.y rfl (Y.fieldAddr fa60_1 rfl)<|hst.y rfl (Y.loadA 2 isAgg57 sizeOf57 rfl rfl rfl rfl)<|Ops.ww rfl (X.call cf177 rfl<|?_); refine use_call (follow_any b T p hp s A cap _ (knownK me es clock i.heard).out hkl A16 c16 s A cap _ _ _ _ _ hst.up_2 (Rds.rowL 1 rfl) hkf1 hrS1) rfl ?_; clear hst; rintro e w43 ⟨b45, A45, c45, rfl, hb45, hr45, hst⟩; replace hst := hst.dn2; refine ⟨_, rfl, ?_⟩; refine hst.y rfl (Y.moveU rfl)<|hst.y rfl (Y.extract rfl rfl)<|hst.y rfl (Y.extract rfl rfl)<|Ops.ww rfl (X.storeS hst 0 sizeOf57 rfl rfl rfl rfl rfl (lZ rfl) rfl rfl fun w7_11 hst => hst.y rfl (Y.assignB rfl)<|Ops.done rfl<|?_); have hq : node1 p (knownK me es clock i.heard).out s tab = followS p (knownK me es clock i.heard).out s := if_neg hb32; exact ⟨(b45, A45, c45), ⟨rfl, trivial⟩, ⟨rfl, rfl, rfl, rfl, rfl, trivial⟩, ⟨hb45.trans (decide_eq_decide.2 ⟨Or.inr, fun h => h.resolve_left hb32⟩), by rw [hq]; exact hr45⟩, by rw [hq]; exact hst⟩
  · replace hb32 := dT hb32; refine hst.y rfl (Y.not rfl)<|Ops.done rfl<|W.condF rfl rfl<|W.skip rfl<|?_; have hq : node1 p (knownK me es clock i.heard).out s tab = coreS p (knownK me es clock i.heard).out s tab := if_pos hb32; have hq2 : coreR p (knownK me es clock i.heard).out s tab = coreS p (knownK me es clock i.heard).out s tab := if_pos hb32; rw [hq2] at hr32 hst; exact ⟨(true, A32, c32), ⟨rfl, trivial⟩, ⟨rfl, rfl, rfl, rfl, rfl, trivial⟩, ⟨(decide_eq_true (Or.inl hb32)).symm, by rw [hq]; exact hr32⟩, by rw [hq]; exact hst⟩
end Go.Proofs.YtaanjifekgfemaaGreat.Cl
end
section
namespace Go.Proofs.YtaanjifekgfemaaGreat.K
open Tryz
open Go.RowKit
section
variable {P : Program} {n : Fr} {c : Code} {Q : Post} {ρ : Env} {w0 w : World} {F0 : List Nat} {L G : List Res} {S : World → Prop} {ty t t' : TypeId} {x y z : Operand}
def MethIs (P : Program) (t : TypeId) (name : String) (f : FuncId) : Prop := ∀ (p : Option Addr) (fuel : Nat) (w : World), (method (fuel + 1) t (.pointer p) name).run P w = .ok (f, .pointer p) w
theorem methIs {t e : TypeId} {name : String} {f : FuncId} {ti : TypeInfo} (hi : P.info? t = some ti) (hu : P.underlying t = some (.pointer e)) (hm : (ti.methods.find? (·.name == name)).map (fun m => (m.path.toList, m.func)) = some ([], some (f, true))) : MethIs P t name f := by
  intro p fuel w; obtain ⟨m, h1, h2⟩ := Option.map_eq_some_iff.1 hm; simp only [Prod.mk.injEq] at h2; simp [method, typeInfo, hi, h1, h2.1, h2.2, follow, receiverAt, run_underlying hu, Place.get]
theorem X.callI {f : FuncId} {k : Nat} {name : String} {xs : Array Operand} {tys : Array TypeId} {bt : TypeId} {p : Option Addr} (hm : MethIs P bt name f) (hfc : ∀ args w, (callFunc f args).run P w = .ok (.enter f args) w) (hx : ρ k = .iface bt (.pointer p)) {vs : List Value} (hv : (xs.toList.map (ev ρ)) = vs) {K : Value → World → Prop} (hc : Calls P f (.pointer p :: vs).toArray w (fun e w' => ∃ v, e = .returned v ∧ K v w')) :
    X P ρ w (.call { callee := .invoke (.tmp k) name, args := xs, argTypes := tys }) ty K := by
  intro a ops Q o ho _ ha hw; refine wpl_call hw (f := f) (args := (.pointer p :: vs).toArray) ?_ (R := fun e w' => ∃ v, e = .returned v ∧ K v w') hc ?_
  · have h1 : ev ρ (.tmp k) = .iface bt (.pointer p) := hx; simp only [execOp, ho, ha]; simp only [resolve, map_toList hv, h1]; have hd : 0 < Made.depth := by decide
    obtain ⟨m, hm1⟩ : ∃ m, P.types.size + Made.depth = m + 1 := ⟨P.types.size + Made.depth - 1, by omega⟩; have h2 := hm p m w; simp [invoke, callMethod, hm1, h2, hfc]
  · rintro e w' ⟨v, rfl, h⟩; exact ⟨v, rfl, v, rfl, h⟩
theorem Y.makeIface {e : TypeId} (ht : P.underlying t = some (.pointer e)) {p : Option Addr} (hx : ev ρ x = .pointer p) : Y P S ρ (.makeInterface t x) ty (.iface t (.pointer p)) := fun w _ o ho _ => by
  simp [execOp, ho, Instr.makeInterface, run_underlying ht, hx]
theorem Y.loadCell (hag : ∀ w, (isAgg t).run P w = .ok false w) {b i m cp : Nat} (hx : ev ρ x = .pointer (some ⟨b, i, none⟩)) {xs : List Value} (hr : Rds L G (.slice (some ⟨b, 0, none⟩) m cp) m xs) {v : Value} (hc : xs[i]? = some v) : Y P (Ctx w0 F0 L G) ρ (.load t x) ty v :=
  Y.loadAt hx fun w hS => run_load_cell hag (by
    obtain ⟨A', cap, he, hcap, hA⟩ := hS.sl hr; injection he with he; subst he; have hk : i < xs.length := (List.getElem?_eq_some_iff.1 hc).1; obtain ⟨ad, had, hc'⟩ := hA (by intro h; rw [h] at hk; simp at hk); injection had with had; subst had; have := hc' i hk; rw [add_lit', Nat.zero_add] at this
    rw [this, hc])
theorem St.up_9 {x0 x1 x2 x3 x4 x5 x6 x7 x8 a : Res} (h : St w0 F0 w (x0 :: x1 :: x2 :: x3 :: x4 :: x5 :: x6 :: x7 :: x8 :: a :: L) G) : St w0 F0 w (a :: x0 :: x1 :: x2 :: x3 :: x4 :: x5 :: x6 :: x7 :: x8 :: L) G := h.perm (List.perm_middle (l₁ := [x0, x1, x2, x3, x4, x5, x6, x7, x8]))
theorem St.dn9 {x0 x1 x2 x3 x4 x5 x6 x7 x8 a : Res} (h : St w0 F0 w (a :: x0 :: x1 :: x2 :: x3 :: x4 :: x5 :: x6 :: x7 :: x8 :: L) G) : St w0 F0 w (x0 :: x1 :: x2 :: x3 :: x4 :: x5 :: x6 :: x7 :: x8 :: a :: L) G := h.perm (List.perm_middle (l₁ := [x0, x1, x2, x3, x4, x5, x6, x7, x8])).symm
theorem St.foc {pre mid post : List Res} {i : Nat} {r : Res} (h : St w0 F0 w (pre ++ (mid ++ post)) G) (hi : mid[i]? = some r) : St w0 F0 w (r :: (pre ++ (mid.eraseIdx i ++ post))) G :=
  h.perm (by
    have h1 : (mid ++ post).Perm ((r :: mid.eraseIdx i) ++ post) := (perm_at hi).append_right post
    exact (h1.append_left pre).trans List.perm_middle)
theorem St.unfoc {pre mid post : List Res} {i : Nat} {r r' : Res} (h : St w0 F0 w (r' :: (pre ++ (mid.eraseIdx i ++ post))) G) (hi : mid[i]? = some r) : St w0 F0 w (pre ++ (mid.set i r' ++ post)) G :=
  h.perm (by
    have h1 : ((r' :: mid.eraseIdx i) ++ post).Perm (mid.set i r' ++ post) := (perm_set hi).append_right post
    exact (List.perm_middle.symm).trans (h1.append_left pre))
theorem flatten_at {α : Type} {l : List (List α)} {i : Nat} {r : List α} (h : l[i]? = some r) : l.flatten.Perm (r ++ (l.eraseIdx i).flatten) := by
  induction l generalizing i with
  | nil => simp at h
  | cons x l ih =>
    cases i with
    | zero => simp at h; subst h; simp
    | succ i =>
      simp at h; have := ih h; simp only [List.flatten_cons, List.eraseIdx_cons_succ]; refine (this.append_left x).trans ?_; rw [← List.append_assoc, ← List.append_assoc]; exact List.perm_append_comm.append_right _
theorem flatten_set {α : Type} {l : List (List α)} {i : Nat} {r r' : List α} (h : l[i]? = some r) : (r' ++ (l.eraseIdx i).flatten).Perm (l.set i r').flatten := by
  have h1 : (l.set i r')[i]? = some r' := by
    have := (List.getElem?_eq_some_iff.1 h).1; simp [this]
  have h2 : (l.set i r').eraseIdx i = l.eraseIdx i := by
    clear h h1
    induction l generalizing i with
    | nil => rfl
    | cons x l ih =>
      cases i with
      | zero => rfl
      | succ i => simp [ih]
  have := flatten_at h1; rw [h2] at this; exact this.symm
theorem St.focF {pre post : List Res} {mid : List (List Res)} {i : Nat} {r : List Res} (h : St w0 F0 w (pre ++ (mid.flatten ++ post)) G) (hi : mid[i]? = some r) : St w0 F0 w (r ++ (pre ++ ((mid.eraseIdx i).flatten ++ post))) G :=
  h.perm (by
    refine (((flatten_at hi).append_right post).append_left pre).trans ?_; rw [List.append_assoc, ← List.append_assoc pre r, ← List.append_assoc r pre]
    exact List.perm_append_comm.append_right _)
theorem St.unfocF {pre post : List Res} {mid : List (List Res)} {i : Nat} {r r' : List Res} (h : St w0 F0 w (r' ++ (pre ++ ((mid.eraseIdx i).flatten ++ post))) G) (hi : mid[i]? = some r) : St w0 F0 w (pre ++ ((mid.set i r').flatten ++ post)) G :=
  h.perm (by
    refine List.Perm.trans ?_ (((flatten_set hi).append_right post).append_left pre); rw [List.append_assoc, ← List.append_assoc pre r', ← List.append_assoc r' pre]
    exact List.perm_append_comm.append_right _)
end
end Go.Proofs.YtaanjifekgfemaaGreat.K
end
section
namespace Go.Proofs.YtaanjifekgfemaaGreat.LN
open Tryz
open Go.RowKit Go.Proofs.YtaanjifekgfemaaGreat.K
abbrev It := ByteArray × Int
abbrev e0 : It := (⟨#[]⟩, 0)
@[reducible] def itc (x : It) : List Value := [.string x.1, .int .i64 x.2]
def rgc (l : List It) : List Value := l.flatMap itc
structure Rw where
  ring : List It
  first : Nat
  count : Nat
def Rw.cells (r : Rw) : List Value := rgc r.ring ++ [.int .i64 (r.first : Int), .int .i64 (r.count : Int)]
structure Rw.Wf (r : Rw) : Prop where
  len : r.ring.length = 64
  f : r.first < 64
  c : r.count ≤ 64
theorem rgc_length (l : List It) : (rgc l).length = l.length * 2 := by
  induction l with
  | nil => rfl
  | cons x l ih => simp [rgc] at ih ⊢; omega
theorem rgc_cons (x : It) (l : List It) : rgc (x :: l) = .string x.1 :: .int .i64 x.2 :: rgc l := rfl
theorem rgc_two : ∀ (l : List It) (k : Nat), k < l.length → ((rgc l).drop (k * 2)).take 2 = itc (l.getD k e0)
  | [], k, h => by simp at h
  | x :: l, 0, h => rfl
  | x :: l, k + 1, h => by
    rw [rgc_cons, show (k + 1) * 2 = k * 2 + 1 + 1 by omega, List.drop_succ_cons, List.drop_succ_cons]; simpa using rgc_two l k (by simpa using h)
theorem rgc_set : ∀ (l : List It) (k : Nat) (y : It), k < l.length → splice (rgc l) (k * 2) (itc y) = rgc (l.set k y)
  | [], k, y, h => by simp at h
  | x :: l, 0, y, h => by simp [splice, rgc, itc]
  | x :: l, k + 1, y, h => by
    have ih := rgc_set l k y (by simpa using h); unfold splice at ih ⊢; rw [rgc_cons, List.set_cons_succ, rgc_cons, ← ih, show (k + 1) * 2 = k * 2 + 1 + 1 by omega]; simp only [List.take_succ_cons, List.cons_append, itc, List.length_cons, List.length_nil]; rw [show k * 2 + 1 + 1 + (0 + 1 + 1) = k * 2 + (0 + 1 + 1) + 1 + 1 by omega, List.drop_succ_cons, List.drop_succ_cons]
theorem cells_length {r : Rw} (h : r.Wf) : r.cells.length = 130 := by simp [Rw.cells, rgc_length, h.len]
section
variable {pre suf : List Value} {o : Nat} {r : Rw}
theorem at_mid (ho : pre.length = o) (h : r.Wf) (i : Nat) (hi : i < 130) : (pre ++ r.cells ++ suf)[o + i]? = r.cells[i]? := by
  subst ho; rw [List.append_assoc, List.getElem?_append_right (by omega), Nat.add_sub_cancel_left, List.getElem?_append_left (by rw [cells_length h]; exact hi)]
theorem at_first (ho : pre.length = o) (h : r.Wf) : (pre ++ r.cells ++ suf)[o + 128]? = some (.int .i64 (r.first : Int)) := by
  rw [at_mid ho h 128 (by omega), Rw.cells, List.getElem?_append_right (by rw [rgc_length, h.len]; omega), rgc_length, h.len]; rfl
theorem at_count (ho : pre.length = o) (h : r.Wf) : (pre ++ r.cells ++ suf)[o + 129]? = some (.int .i64 (r.count : Int)) := by
  rw [at_mid ho h 129 (by omega), Rw.cells, List.getElem?_append_right (by rw [rgc_length, h.len]; omega), rgc_length, h.len]; rfl
theorem at_ring (ho : pre.length = o) (h : r.Wf) {k : Nat} (hk : k < 64) : ((pre ++ r.cells ++ suf).drop (o + k * 2)).take 2 = itc (r.ring.getD k e0) := by
  subst ho; rw [← rgc_two r.ring k (by rw [h.len]; exact hk), List.append_assoc, ← List.drop_drop, List.drop_left]; have hl := rgc_length r.ring; rw [h.len] at hl; unfold Rw.cells; rw [List.append_assoc, List.drop_append_of_le_length (by omega), List.take_append_of_le_length (by rw [List.length_drop]; omega)]
theorem set_mid (ho : pre.length = o) (i : Nat) (hi : i < r.cells.length) (v : Value) : (pre ++ r.cells ++ suf).set (o + i) v = pre ++ r.cells.set i v ++ suf := by
  subst ho; rw [List.append_assoc, List.set_append_right _ _ (by omega), Nat.add_sub_cancel_left, List.set_append_left _ _ (by omega), List.append_assoc]
theorem set_first (ho : pre.length = o) (h : r.Wf) (f : Nat) : (pre ++ r.cells ++ suf).set (o + 128) (.int .i64 (f : Int)) = pre ++ ({ r with first := f } : Rw).cells ++ suf := by
  have hl := rgc_length r.ring; rw [h.len] at hl; rw [set_mid ho 128 (by rw [cells_length h]; omega)]; unfold Rw.cells; rw [List.set_append_right _ _ (by omega), hl]; rfl
theorem set_count (ho : pre.length = o) (h : r.Wf) (c : Nat) : (pre ++ r.cells ++ suf).set (o + 129) (.int .i64 (c : Int)) = pre ++ ({ r with count := c } : Rw).cells ++ suf := by
  have hl := rgc_length r.ring; rw [h.len] at hl; rw [set_mid ho 129 (by rw [cells_length h]; omega)]; unfold Rw.cells; rw [List.set_append_right _ _ (by omega), hl]; rfl
theorem set_ring (ho : pre.length = o) (h : r.Wf) {k : Nat} (hk : k < 64) (y : It) : splice (pre ++ r.cells ++ suf) (o + k * 2) (itc y) = pre ++ ({ r with ring := r.ring.set k y } : Rw).cells ++ suf := by
  subst ho; have hl := rgc_length r.ring; rw [h.len] at hl; unfold Rw.cells; rw [← rgc_set r.ring k y (by rw [h.len]; exact hk)]; unfold splice; have e2 : (itc y).length = 2 := rfl; rw [e2]
  have t1 : (pre ++ (rgc r.ring ++ [Value.int .i64 (r.first : Int), .int .i64 (r.count : Int)]) ++ suf).take (pre.length + k * 2) = pre ++ (rgc r.ring).take (k * 2) := by
    rw [List.append_assoc, List.take_append, List.take_of_length_le (by omega), Nat.add_sub_cancel_left, List.append_assoc, List.take_append_of_le_length (by omega)]
  have t2 : (pre ++ (rgc r.ring ++ [Value.int .i64 (r.first : Int), .int .i64 (r.count : Int)]) ++ suf).drop (pre.length + k * 2 + 2) = (rgc r.ring).drop (k * 2 + 2) ++ ([Value.int .i64 (r.first : Int), .int .i64 (r.count : Int)] ++ suf) := by
    rw [Nat.add_assoc, List.append_assoc, ← List.drop_drop, List.drop_left, List.append_assoc, List.drop_append_of_le_length (by omega)]
  rw [t1, t2]; simp [List.append_assoc]
end
def Rw.item (r : Rw) (k : Nat) : It := r.ring.getD ((r.first + k) % 64) e0
def Rw.items (r : Rw) : List It := (List.range r.count).map r.item
def Rw.pop (r : Rw) : Rw := { ring := r.ring.set r.first e0, first := (r.first + 1) % 64, count := r.count - 1 }
def Rw.put (r : Rw) (x : It) : Rw := { r with ring := r.ring.set ((r.first + r.count) % 64) x, count := r.count + 1 }
def Rw.push (r : Rw) (s : ByteArray) : Rw := if r.count = 64 then r.pop.put (s, 0) else r.put (s, 0)
theorem Rw.Wf.pop {r : Rw} (h : r.Wf) : r.pop.Wf := ⟨by simp [Rw.pop, h.len], by simp only [Rw.pop]; omega, by simp only [Rw.pop]; have := h.c; omega⟩
theorem Rw.Wf.put {r : Rw} (h : r.Wf) (hc : r.count < 64) (x : It) : (r.put x).Wf := ⟨by simp [Rw.put, h.len], h.f, by simp only [Rw.put]; omega⟩
theorem Rw.Wf.push {r : Rw} (h : r.Wf) (s : ByteArray) : (r.push s).Wf := by
  unfold Rw.push; split
  · exact h.pop.put (by simp only [Rw.pop]; omega) _
  · exact h.put (by have := h.c; omega) _
theorem Rw.items_length (r : Rw) : r.items.length = r.count := by simp [Rw.items]
theorem Rw.items_pop {r : Rw} (h : r.Wf) (hc : 0 < r.count) : r.items = r.ring.getD r.first e0 :: r.pop.items := by
  have hf := h.f; have hl := h.len; have hcc := h.c; apply List.ext_getElem
  · simp [Rw.items, Rw.pop]; omega
  · intro k h1 h2; simp only [Rw.items, List.length_map, List.length_range] at h1
    cases k with
    | zero =>
      simp only [Rw.items, List.getElem_map, List.getElem_range, Rw.item, List.getElem_cons_zero, Nat.add_zero]; rw [Nat.mod_eq_of_lt hf]
    | succ k =>
      simp only [Rw.items, List.getElem_map, List.getElem_range, Rw.item, List.getElem_cons_succ, Rw.pop]; rw [show ((r.first + 1) % 64 + k) % 64 = (r.first + (k + 1)) % 64 by omega]; rw [List.getD_eq_getElem?_getD, List.getD_eq_getElem?_getD, List.getElem?_set_ne (by omega)]
theorem Rw.items_put {r : Rw} (h : r.Wf) (hc : r.count < 64) (x : It) : (r.put x).items = r.items ++ [x] := by
  have hf := h.f; have hl := h.len; simp only [Rw.items, Rw.put, List.range_succ, List.map_append, List.map_cons, List.map_nil]
  congr 1
  · apply List.map_congr_left; intro k hk; have hk : k < r.count := by simpa using hk
    simp only [Rw.item]; rw [List.getD_eq_getElem?_getD, List.getD_eq_getElem?_getD, List.getElem?_set_ne (by omega)]
  · simp only [Rw.item]; rw [List.getD_eq_getElem?_getD, List.getElem?_set_self (by omega)]; rfl
theorem Rw.items_push {r : Rw} (h : r.Wf) (s : ByteArray) : (r.push s).items = (if r.count = 64 then r.items.tail else r.items) ++ [(s, 0)] := by
  unfold Rw.push
  by_cases hc : r.count = 64
  · rw [if_pos hc, if_pos hc, Rw.items_put h.pop (by simp only [Rw.pop]; omega), Rw.items_pop h (by omega)]; rfl
  · rw [if_neg hc, if_neg hc, Rw.items_put h (by have := h.c; omega)]
def rowR' (b : Nat) (pre : List Value) (r : Rw) (suf : List Value) : Res := cellsR b (pre ++ r.cells ++ suf) 190
theorem ret_ptr {b i j : Nat} (h : i = j) : Ending.returned (.pointer (some ⟨b, i, none⟩)) = .returned (.pointer (some ⟨b, j, none⟩)) := by rw [h]
def zr : Rw := ⟨List.replicate 64 e0, 0, 0⟩
def lcells (l : List Rw) : List Value := l.flatMap Rw.cells
set_option maxRecDepth 100000 in
theorem z53 : ((Tryz.prog.info? 190).map (fun i => i.zero)) = some (some (Value.agg (lcells (List.replicate 48 zr)).toArray)) := by kernel_rfl
theorem zv53 (w : World) : (zeroValue 190).run Tryz.prog w = .ok (.agg (lcells (List.replicate 48 zr)).toArray) w := by
  obtain ⟨i, hi, hz⟩ := Option.map_eq_some_iff.1 z53; simp [zeroValue, typeInfo, hi, hz]
theorem bd132_ {S ρ ty} {parts : Array (Nat × Operand)}  (hp : (parts.toList.map fun x => (x.1, ev ρ x.2)) = []) : Y Tryz.prog S ρ (.build 132 parts) ty (.agg #[Value.string ⟨#[]⟩, Value.int .i64 0]) :=
  Y.build hp fun w => by simp [Instr.build, go_sem]
theorem bd132_0 {S ρ ty} {parts : Array (Nat × Operand)} {x0 : ByteArray} (hp : (parts.toList.map fun x => (x.1, ev ρ x.2)) = [(0, Value.string x0)]) : Y Tryz.prog S ρ (.build 132 parts) ty (.agg #[Value.string x0, Value.int .i64 0]) :=
  Y.build hp fun w => by simp [Instr.build, go_sem]
theorem fa166_0 : FA 166 0 0 := fun _ _ => by simp [Instr.fieldAt, Instr.sureAddr, go_sem]
theorem fa166_1 : FA 166 1 128 := fun _ _ => by simp [Instr.fieldAt, Instr.sureAddr, go_sem]
theorem fa166_2 : FA 166 2 129 := fun _ _ => by simp [Instr.fieldAt, Instr.sureAddr, go_sem]
theorem fa190_0 : FA 190 0 0 := fun _ _ => by simp [Instr.fieldAt, Instr.sureAddr, go_sem]
theorem cf80 : CF 80 := fun _ _ => by simp [go_sem]
theorem cf94 : CF 94 := fun _ _ => by simp [go_sem]
theorem at_any (b o : Nat) (pre suf : List Value) (r : Rw) (k : Nat) (w0 w : World) (F0 : List Nat) (L G : List Res) (hst : St w0 F0 w L G) (n : Nat) (hL : L[n]? = some (rowR' b pre r suf)) (ho : pre.length = o) (hr : r.Wf) (hk : k ≤ 64) :
    Calls Tryz.prog 94 #[.pointer (some ⟨b, o, none⟩), .int .i64 (k : Int)] w fun e w' => e = .returned (.pointer (some ⟨b, o + (r.first + k) % 64 * 2, none⟩)) ∧ St w0 F0 w' L G := by
  have hf := hr.f; refine W.func func94 rfl ntmps94 rfl<|W.sr rfl<|hst.y rfl (Y.assignP rfl)<|Ops.done rfl<|W.seq rfl<|W.drawn rfl (by kernel_rfl) (Ctx _ _ (_) (_)) [] (.op 0 0 (.op 1 0 (.op 2 0 (.op 3 0 (.op 4 0 (.op 5 0 (.op 6 0 (.op 7 0 (.op 8 0 (.op 9 0 (.op 10 0 (.op 11 0 .nil)))))))))))) rfl (by kernel_rfl) hst.drew.ctx<|?_; replace hst := hst.drew; generalize World.drew _ = wd at hst ⊢; refine hst.z rfl (Y.moveP rfl)<|hst.z rfl (Y.moveP rfl)<|hst.z rfl (Y.nilCheck rfl)<|?_
  first
  | refine hst.z rfl (Y.fieldAddr fa166_1 rfl) ?_
  | refine hst.z rfl (Y.fieldAddrP fa166_1 rfl) ?_
  refine hst.z rfl (Y.load n isAgg3 rfl hL (at_first ho hr))<|hst.z rfl (Y.moveI rfl)<|hst.z rfl (Y.addI rfl rfl (by omega))<|hst.z rfl (Y.remI rfl rfl (by omega))<|hst.z rfl (Y.nilCheck rfl)<|?_
  first
  | refine hst.z rfl (Y.fieldAddr fa166_0 rfl) ?_
  | refine hst.z rfl (Y.fieldAddrP fa166_0 rfl) ?_
  refine hst.z rfl (Y.indexAddrA underlying164 sizeOf132 rfl rfl (by omega))<|hst.z rfl (Y.assignP rfl)<|Drw.done<|W.ret rfl<|⟨_, Rslt.one results94 rfl, ?_⟩; exact ⟨ret_ptr (by omega), hst⟩
set_option maxHeartbeats 1000000 in
theorem pop_any (b o : Nat) (pre suf : List Value) (r : Rw) (w0 w : World) (F0 : List Nat) (L G : List Res) (hst : St w0 F0 w (rowR' b pre r suf :: L) G) (ho : pre.length = o) (hr : r.Wf) (hc : 0 < r.count) :
    Calls Tryz.prog 80 #[.pointer (some ⟨b, o, none⟩)] w fun e w' => e = .returned (.agg #[.string (r.ring.getD r.first e0).1, .int .i64 (r.ring.getD r.first e0).2]) ∧ St w0 F0 w' (rowR' b pre r.pop suf :: L) G := by
  have hf := hr.f; have hcc := hr.c; have hmod : (r.first + 0) % 64 = r.first := by omega
  refine W.func func80 rfl ntmps80 rfl<|W.sr rfl<|Ops.ww rfl (X.allocA hst zeroValue132<|?_); clear hst; intro p2 w2 hst; refine Ops.ds rfl rfl<|hst.y rfl (Y.moveP rfl)<|Ops.ww rfl (X.call cf94 rfl<|?_); refine use_call (at_any b o pre suf r 0 _ _ _ _ _ hst 1 rfl ho hr (by omega)) rfl ?_; rintro e w1 ⟨rfl, hst⟩; refine ⟨_, rfl, ?_⟩; refine hst.y rfl (Y.nilCheck rfl)<|hst.y rfl (Y.loadA 1 isAgg132 sizeOf132 rfl rfl ((at_ring ho hr (by omega)).trans (congrArg (fun k => itc (r.ring.getD k e0)) hmod)) rfl)<|Ops.ww rfl (X.allocA hst zeroValue132<|?_); clear hst; intro p3 w3 hst
  first
  | refine Ops.ww rfl (X.storeS hst 0 sizeOf132 rfl rfl rfl rfl rfl (lZ rfl) rfl rfl ?_)
  | refine Ops.ww rfl (X.storeS hst 1 sizeOf132 rfl rfl rfl rfl rfl (lZ rfl) rfl rfl ?_)
  clear hst; intro w1_5 hst
  try simp only [List.set_cons_zero, List.set_cons_succ, Nat.zero_add, Nat.reduceAdd, splice, List.take, List.drop, List.append_eq, List.nil_append, List.cons_append, List.length_cons, List.length_nil] at hst
  refine Ops.ds rfl rfl<|hst.y rfl (Y.moveP rfl)<|Ops.ww rfl (X.call cf94 rfl<|?_); refine use_call (at_any b o pre suf r 0 _ _ _ _ _ hst 2 rfl ho hr (by omega)) rfl ?_; rintro e w1 ⟨rfl, hst⟩; refine ⟨_, rfl, ?_⟩; refine hst.y rfl (bd132_ rfl)<|hst.y rfl (Y.nilCheck rfl)<|Ops.ww rfl (X.storeS hst 2 sizeOf132 rfl rfl rfl rfl rfl (by rw [List.length_append, List.length_append, cells_length hr]; omega) (set_ring ho hr (k := (r.first + 0) % 64) (by omega) e0) rfl<|?_); clear hst; intro w2 hst; have hr2 : ({ r with ring := r.ring.set ((r.first + 0) % 64) e0 } : Rw).Wf := ⟨by simp [hr.len], hr.f, hr.c⟩; have e2 : ({ r with ring := r.ring.set ((r.first + 0) % 64) e0 } : Rw).first = r.first ∧ ({ r with ring := r.ring.set ((r.first + 0) % 64) e0 } : Rw).count = r.count := ⟨rfl, rfl⟩; generalize h2 : ({ r with ring := r.ring.set ((r.first + 0) % 64) e0 } : Rw) = r2 at hst hr2 e2; refine Ops.done rfl<|W.seq rfl<|W.drawn rfl (by kernel_rfl) (Ctx _ _ (_) (_)) [15, 16, 17, 18] (.op 0 0 (.op 1 2 (.op 2 0 (.op 3 0 (.op 4 0 (.op 5 0 (.op 6 0 (.op 7 0 (.op 8 0 (.op 9 0 (.op 10 0 (.op 11 0 (.op 12 2 (.op 13 0 (.op 14 0 (.op 15 1 (.op 16 1 (.op 17 1 (.op 18 1 .nil))))))))))))))))))) rfl (by kernel_rfl) hst.drew.ctx<|?_; replace hst := hst.drew; generalize World.drew _ = wd at hst ⊢; refine hst.z rfl (Y.moveP rfl)<|Drw.ya rfl rfl rfl hst.ctx (Y.moveP rfl)<|hst.z rfl (Y.moveP rfl)<|hst.z rfl (Y.nilCheck rfl)<|?_
  first
  | refine hst.z rfl (Y.fieldAddr fa166_1 rfl) ?_
  | refine hst.z rfl (Y.fieldAddrP fa166_1 rfl) ?_
  first
  | refine hst.z rfl (Y.load 0 isAgg3 rfl rfl rfl) ?_
  | refine hst.z rfl (Y.load 1 isAgg3 rfl rfl rfl) ?_
  | refine hst.z rfl (Y.load 2 isAgg3 rfl rfl (at_first ho hr2)) ?_
  | refine hst.z rfl (Y.load 2 isAgg3 rfl rfl (at_count ho hr2)) ?_
  refine hst.z rfl (Y.addI rfl rfl (by omega))<|hst.z rfl (Y.remI rfl rfl (by omega))<|hst.z rfl (Y.moveP rfl)<|hst.z rfl (Y.nilCheck rfl)<|?_
  first
  | refine hst.z rfl (Y.fieldAddr fa166_2 rfl) ?_
  | refine hst.z rfl (Y.fieldAddrP fa166_2 rfl) ?_
  first
  | refine hst.z rfl (Y.load 0 isAgg3 rfl rfl rfl) ?_
  | refine hst.z rfl (Y.load 1 isAgg3 rfl rfl rfl) ?_
  | refine hst.z rfl (Y.load 2 isAgg3 rfl rfl (at_first ho hr2)) ?_
  | refine hst.z rfl (Y.load 2 isAgg3 rfl rfl (at_count ho hr2)) ?_
  refine Drw.ya rfl rfl rfl hst.ctx (Y.subI rfl rfl (by omega))<|hst.z rfl (Y.nilCheck rfl)<|?_
  first
  | refine hst.z rfl (Y.fieldAddr fa166_1 rfl) ?_
  | refine hst.z rfl (Y.fieldAddrP fa166_1 rfl) ?_
  refine Drw.z rfl rfl rfl rfl (X.store hst 2 sizeOf3 rfl rfl rfl rfl (by rw [List.length_append, List.length_append, cells_length hr2]; omega) ((congrArg (List.set _ _) (congrArg (Value.int .i64) (show ((r2.first : Int) + 1) % 64 = (((r.first + 1) % 64 : Nat) : Int) by omega))).trans (set_first ho hr2 ((r.first + 1) % 64))) rfl ?_); clear hst; intro w3 hst; have hr3 : ({ r2 with first := (r.first + 1) % 64 } : Rw).Wf := ⟨hr2.len, Nat.mod_lt _ (by decide), hr2.c⟩; refine Drw.zy rfl rfl rfl rfl hst.ctx (Y.nilCheck rfl) ?_
  first
  | refine Drw.zy rfl rfl rfl rfl hst.ctx (Y.fieldAddr fa166_2 rfl) ?_
  | refine Drw.zy rfl rfl rfl rfl hst.ctx (Y.fieldAddrP fa166_2 rfl) ?_
  refine Drw.z rfl rfl rfl rfl (X.store hst 2 sizeOf3 rfl rfl rfl rfl (by rw [List.length_append, List.length_append, cells_length hr3]; omega) ((congrArg (List.set _ _) (congrArg (Value.int .i64) (show (r2.count : Int) - 1 = ((r.count - 1 : Nat) : Int) by omega))).trans (set_count ho hr3 (r.count - 1))) rfl ?_); clear hst; intro w4 hst; refine Drw.done<|W.sr rfl<|?_
  first
  | refine hst.y rfl (Y.loadA 0 isAgg132 sizeOf132 rfl rfl rfl rfl) ?_
  | refine hst.y rfl (Y.loadA 1 isAgg132 sizeOf132 rfl rfl rfl rfl) ?_
  | refine hst.y rfl (Y.load 2 isAgg3 rfl rfl (at_first ho hr2)) ?_
  | refine hst.y rfl (Y.load 2 isAgg3 rfl rfl (at_count ho hr2)) ?_
  first
  | refine Ops.ww rfl (X.storeS hst 0 sizeOf132 rfl rfl rfl rfl rfl (lZ rfl) rfl rfl ?_)
  | refine Ops.ww rfl (X.storeS hst 1 sizeOf132 rfl rfl rfl rfl rfl (lZ rfl) rfl rfl ?_)
  clear hst; intro w4_1 hst
  try simp only [List.set_cons_zero, List.set_cons_succ, Nat.zero_add, Nat.reduceAdd, splice, List.take, List.drop, List.append_eq, List.nil_append, List.cons_append, List.length_cons, List.length_nil] at hst
  refine Ops.done rfl<|W.ret rfl<|⟨_, Rslt.cell results80 rfl (run_load_agg isAgg132 sizeOf132 rfl (fun j v h => by rw [add_lit', hst.cell (.inl (List.Mem.tail _ (List.Mem.head _))) (0 + j), Nat.zero_add]; exact h)), ?_⟩; refine ⟨rfl, ?_⟩; have e3 : ({ r2 with first := (r.first + 1) % 64, count := r.count - 1 } : Rw) = r.pop := by rw [← h2, hmod]; rfl
  have hst := hst.drop.drop; rw [show (cellsR b (pre ++ ({ r2 with first := (r.first + 1) % 64, count := r.count - 1 } : Rw).cells ++ suf) 190) = rowR' b pre r.pop suf by rw [e3]; rfl] at hst; exact hst
set_option maxHeartbeats 1000000 in
theorem push_any (b o : Nat) (pre suf : List Value) (r : Rw) (s : ByteArray) (w0 w : World) (F0 : List Nat) (L G : List Res) (hst : St w0 F0 w (rowR' b pre r suf :: L) G) (ho : pre.length = o) (hr : r.Wf) :
    Calls Tryz.prog 77 #[.pointer (some ⟨b, o, none⟩), .string s] w fun e w' => ∃ c, e = .returned (.bool c) ∧ c = decide (r.count ≠ 64) ∧ St w0 F0 w' (rowR' b pre (r.push s) suf :: L) G := by
  have hf := hr.f; have hcc := hr.c; refine W.func func77 rfl ntmps77 rfl<|W.sr rfl<|hst.y rfl (Y.assignB rfl)<|Ops.ds rfl rfl<|hst.y rfl (Y.moveP rfl)<|hst.y rfl (Y.nilCheck rfl)<|?_
  first
  | refine hst.y rfl (Y.fieldAddr fa166_2 rfl) ?_
  | refine hst.y rfl (Y.fieldAddrP fa166_2 rfl) ?_
  first
  | refine hst.y rfl (Y.load 0 isAgg3 rfl rfl (at_count ho hr)) ?_
  | refine hst.y rfl (Y.load 0 isAgg3 rfl rfl (at_count ho hq)) ?_
  | refine hst.y rfl (Y.load 0 isAgg3 rfl rfl (at_count ho hq2)) ?_
  refine hst.yb rfl (Y.eql rfl rfl) (fun b10 hb10 => hst.y rfl (Y.assignB rfl)<|Ops.done rfl<|W.seq rfl<|W.sr rfl<|hst.y rfl (Y.moveB rfl)<|Ops.done rfl<|?_); cases b10
  · replace hb10 := dF hb10; refine W.condF rfl rfl<|W.skip rfl<|W.seq rfl<|?_; obtain ⟨q, hq, hqc, hst, hfin⟩ : ∃ q : Rw, q.Wf ∧ q.count < 64 ∧ St w0 F0 _ (rowR' b pre q suf :: L) G ∧ r.push s = q.put (s, 0) := by first | exact ⟨r, hr, by omega, hst, by unfold Rw.push; rw [if_neg (by omega)]⟩ | exact ⟨r.pop, hr.pop, by simp only [Rw.pop]; omega, hst, by unfold Rw.push; rw [if_pos (by omega)]⟩
    have hqf := hq.f; refine W.region rfl<|hst.y rfl (Y.moveP rfl)<|hst.y rfl (Y.moveP rfl)<|hst.y rfl (Y.nilCheck rfl)<|?_
    first
    | refine hst.y rfl (Y.fieldAddr fa166_2 rfl) ?_
    | refine hst.y rfl (Y.fieldAddrP fa166_2 rfl) ?_
    first
    | refine hst.y rfl (Y.load 0 isAgg3 rfl rfl (at_count ho hr)) ?_
    | refine hst.y rfl (Y.load 0 isAgg3 rfl rfl (at_count ho hq)) ?_
    | refine hst.y rfl (Y.load 0 isAgg3 rfl rfl (at_count ho hq2)) ?_
    refine Ops.ww rfl (X.call cf94 rfl ?_); refine use_call (at_any b o pre suf q q.count _ _ _ _ _ hst 0 rfl ho hq (by omega)) rfl ?_; rintro e w2 ⟨rfl, hst⟩; refine ⟨_, rfl, ?_⟩; refine hst.y rfl (Y.moveT rfl)<|hst.y rfl (bd132_0 rfl)<|hst.y rfl (Y.nilCheck rfl)<|Ops.ww rfl (X.storeS hst 0 sizeOf132 rfl rfl rfl rfl rfl (by rw [List.length_append, List.length_append, cells_length hq]; omega) (set_ring ho hq (k := (q.first + q.count) % 64) (by omega) (s, 0)) rfl<|?_); clear hst; intro w3 hst; have hq2 : ({ q with ring := q.ring.set ((q.first + q.count) % 64) (s, 0) } : Rw).Wf := ⟨by simp [hq.len], hq.f, hq.c⟩; have e2 : ({ q with ring := q.ring.set ((q.first + q.count) % 64) (s, 0) } : Rw).count = q.count := rfl; generalize h2 : ({ q with ring := q.ring.set ((q.first + q.count) % 64) (s, 0) } : Rw) = q2 at hst hq2 e2; refine Ops.ds rfl rfl<|hst.y rfl (Y.moveP rfl)<|hst.y rfl (Y.nilCheck rfl)<|?_
    first
    | refine hst.y rfl (Y.fieldAddr fa166_2 rfl) ?_
    | refine hst.y rfl (Y.fieldAddrP fa166_2 rfl) ?_
    first
    | refine hst.y rfl (Y.load 0 isAgg3 rfl rfl (at_count ho hr)) ?_
    | refine hst.y rfl (Y.load 0 isAgg3 rfl rfl (at_count ho hq)) ?_
    | refine hst.y rfl (Y.load 0 isAgg3 rfl rfl (at_count ho hq2)) ?_
    refine hst.y rfl (Y.addI rfl rfl (by omega))<|hst.y rfl (Y.nilCheck rfl)<|?_
    first
    | refine hst.y rfl (Y.fieldAddr fa166_2 rfl) ?_
    | refine hst.y rfl (Y.fieldAddrP fa166_2 rfl) ?_
    refine Ops.ww rfl (X.store hst 0 sizeOf3 rfl rfl rfl rfl (by rw [List.length_append, List.length_append, cells_length hq2]; omega) ((congrArg (List.set _ _) (congrArg (Value.int .i64) (show (q2.count : Int) + 1 = ((q.count + 1 : Nat) : Int) by omega))).trans (set_count ho hq2 (q.count + 1))) rfl ?_); clear hst; intro w4 hst; refine Ops.ds rfl rfl<|hst.y rfl (Y.moveB rfl)<|hst.y rfl (Y.not rfl)<|hst.y rfl (Y.assignB rfl)<|Ops.done rfl<|W.ret rfl<|⟨_, Rslt.one results77 rfl, ?_⟩; refine ⟨_, rfl, ?_, ?_⟩
    · first | exact (decide_eq_true (by omega)).symm | exact (decide_eq_false (by omega)).symm
    · have e3 : ({ q2 with count := q.count + 1 } : Rw) = r.push s := by rw [hfin, ← h2]; rfl
      rw [← e3]; exact hst
  · replace hb10 := dT hb10; refine W.condT rfl rfl<|W.region rfl<|hst.y rfl (Y.moveP rfl)<|Ops.ww rfl (X.call cf80 rfl<|?_); refine use_call (pop_any b o pre suf r _ _ _ _ _ hst ho hr (by omega)) rfl ?_; rintro e w1 ⟨rfl, hst⟩; refine ⟨_, rfl, ?_⟩; refine Ops.done rfl<|W.seq rfl<|?_; obtain ⟨q, hq, hqc, hst, hfin⟩ : ∃ q : Rw, q.Wf ∧ q.count < 64 ∧ St w0 F0 _ (rowR' b pre q suf :: L) G ∧ r.push s = q.put (s, 0) := by first | exact ⟨r, hr, by omega, hst, by unfold Rw.push; rw [if_neg (by omega)]⟩ | exact ⟨r.pop, hr.pop, by simp only [Rw.pop]; omega, hst, by unfold Rw.push; rw [if_pos (by omega)]⟩
    have hqf := hq.f; refine W.region rfl<|hst.y rfl (Y.moveP rfl)<|hst.y rfl (Y.moveP rfl)<|hst.y rfl (Y.nilCheck rfl)<|?_
    first
    | refine hst.y rfl (Y.fieldAddr fa166_2 rfl) ?_
    | refine hst.y rfl (Y.fieldAddrP fa166_2 rfl) ?_
    first
    | refine hst.y rfl (Y.load 0 isAgg3 rfl rfl (at_count ho hr)) ?_
    | refine hst.y rfl (Y.load 0 isAgg3 rfl rfl (at_count ho hq)) ?_
    | refine hst.y rfl (Y.load 0 isAgg3 rfl rfl (at_count ho hq2)) ?_
    refine Ops.ww rfl (X.call cf94 rfl ?_); refine use_call (at_any b o pre suf q q.count _ _ _ _ _ hst 0 rfl ho hq (by omega)) rfl ?_; rintro e w2 ⟨rfl, hst⟩; refine ⟨_, rfl, ?_⟩; refine hst.y rfl (Y.moveT rfl)<|hst.y rfl (bd132_0 rfl)<|hst.y rfl (Y.nilCheck rfl)<|Ops.ww rfl (X.storeS hst 0 sizeOf132 rfl rfl rfl rfl rfl (by rw [List.length_append, List.length_append, cells_length hq]; omega) (set_ring ho hq (k := (q.first + q.count) % 64) (by omega) (s, 0)) rfl<|?_); clear hst; intro w3 hst; have hq2 : ({ q with ring := q.ring.set ((q.first + q.count) % 64) (s, 0) } : Rw).Wf := ⟨by simp [hq.len], hq.f, hq.c⟩; have e2 : ({ q with ring := q.ring.set ((q.first + q.count) % 64) (s, 0) } : Rw).count = q.count := rfl; generalize h2 : ({ q with ring := q.ring.set ((q.first + q.count) % 64) (s, 0) } : Rw) = q2 at hst hq2 e2; refine Ops.ds rfl rfl<|hst.y rfl (Y.moveP rfl)<|hst.y rfl (Y.nilCheck rfl)<|?_
    first
    | refine hst.y rfl (Y.fieldAddr fa166_2 rfl) ?_
    | refine hst.y rfl (Y.fieldAddrP fa166_2 rfl) ?_
    first
    | refine hst.y rfl (Y.load 0 isAgg3 rfl rfl (at_count ho hr)) ?_
    | refine hst.y rfl (Y.load 0 isAgg3 rfl rfl (at_count ho hq)) ?_
    | refine hst.y rfl (Y.load 0 isAgg3 rfl rfl (at_count ho hq2)) ?_
    refine hst.y rfl (Y.addI rfl rfl (by omega))<|hst.y rfl (Y.nilCheck rfl)<|?_
    first
    | refine hst.y rfl (Y.fieldAddr fa166_2 rfl) ?_
    | refine hst.y rfl (Y.fieldAddrP fa166_2 rfl) ?_
    refine Ops.ww rfl (X.store hst 0 sizeOf3 rfl rfl rfl rfl (by rw [List.length_append, List.length_append, cells_length hq2]; omega) ((congrArg (List.set _ _) (congrArg (Value.int .i64) (show (q2.count : Int) + 1 = ((q.count + 1 : Nat) : Int) by omega))).trans (set_count ho hq2 (q.count + 1))) rfl ?_); clear hst; intro w4 hst; refine Ops.ds rfl rfl<|hst.y rfl (Y.moveB rfl)<|hst.y rfl (Y.not rfl)<|hst.y rfl (Y.assignB rfl)<|Ops.done rfl<|W.ret rfl<|⟨_, Rslt.one results77 rfl, ?_⟩; refine ⟨_, rfl, ?_, ?_⟩
    · first | exact (decide_eq_true (by omega)).symm | exact (decide_eq_false (by omega)).symm
    · have e3 : ({ q2 with count := q.count + 1 } : Rw) = r.push s := by rw [hfin, ← h2]; rfl
      rw [← e3]; exact hst
theorem bd53 {S ρ ty} {parts : Array (Nat × Operand)} (hp : parts.toList = []) : Y Tryz.prog S ρ (.build 190 parts) ty (.agg (lcells (List.replicate 48 zr)).toArray) :=
  Y.build (ps := []) (by rw [hp]; rfl) fun w => by
    simp only [Instr.build, Sem.run_bind, zv53, Result.andThen_ok, run_underlying underlying190]; simp [go_sem, Instr.fill, Value.cells]
theorem new_any (w0 w : World) (F0 : List Nat) (L G : List Res) (hst : St w0 F0 w L G) :
    Calls Tryz.prog 71 #[] w fun e w' => ∃ b, e = .returned (.pointer (some ⟨b, 0, none⟩)) ∧ St w0 F0 w' (cellsR b (lcells (List.replicate 48 zr)) 190 :: L) G := by
  refine W.func func71 rfl ntmps71 rfl<|W.sr rfl<|hst.y rfl (Y.assignP rfl)<|Ops.ds rfl rfl<|hst.y rfl (bd53 rfl)<|Ops.ww rfl (X.boxA hst rfl<|?_); clear hst; intro p2 w2 hst; refine hst.y rfl (Y.assignP rfl)<|Ops.done rfl<|W.ret rfl<|⟨_, Rslt.one results71 rfl, ?_⟩; exact ⟨_, rfl, hst⟩
theorem row_any (b : Nat) (who : Int) (w : World) :
    Calls Tryz.prog 76 #[.pointer (some ⟨b, 0, none⟩), .int .i64 who] w fun e w' => e = .returned (.pointer (if 0 ≤ who ∧ who < 48 then some ⟨b, who.toNat * 130, none⟩ else none)) ∧ w = w' := by
  refine W.func func76 rfl ntmps76 rfl<|W.sr rfl<|Ops.y rfl rfl rfl (any _) (Y.assignP rfl)<|Ops.done rfl<|W.seq rfl<|W.sr rfl<|Ops.y rfl rfl rfl (any _) (Y.moveP rfl)<|Ops.y rfl rfl rfl (any _) (Y.isNil underlying94 rfl rfl)<|Ops.y rfl rfl rfl (any _) (Y.moveB rfl)<|Ops.y rfl rfl rfl (any _) (Y.moveI rfl)<|Ops.yb rfl rfl rfl (any _) (Y.lss rfl rfl) (fun b9 hb9 => Ops.y rfl rfl rfl (any _) (Y.pB rfl rfl)<|Ops.y rfl rfl rfl (any _) (Y.moveB rfl)<|?_); cases b9
  · replace hb9 := dF hb9; refine Ops.y rfl rfl rfl (any _) (Y.moveI rfl)<|Ops.yb rfl rfl rfl (any _) (Y.geq rfl rfl) (fun b13 hb13 => Ops.y rfl rfl rfl (any _) (Y.pB rfl rfl)<|Ops.done rfl<|?_); cases b13
    · replace hb13 := dF hb13; refine W.condF rfl rfl<|W.skip rfl<|W.sr rfl<|Ops.y rfl rfl rfl (any _) (Y.moveP rfl)<|Ops.y rfl rfl rfl (any _) (Y.moveI rfl)<|Ops.y rfl rfl rfl (any _) (Y.nilCheck rfl)<|?_
      first
      | refine Ops.y rfl rfl rfl (any _) (Y.fieldAddr fa190_0 rfl) ?_
      | refine Ops.y rfl rfl rfl (any _) (Y.fieldAddrP fa190_0 rfl) ?_
      refine Ops.y rfl rfl rfl (any _) (Y.indexAddrA underlying188 sizeOf166 rfl rfl (by omega))<|Ops.y rfl rfl rfl (any _) (Y.assignP rfl)<|Ops.done rfl<|W.ret rfl<|⟨_, Rslt.one results76 rfl, ?_⟩; refine ⟨?_, rfl⟩
      first | (rw [if_neg (by omega)]; rfl) | (rw [if_pos (by omega)]; exact ret_ptr (by omega))
    · replace hb13 := dT hb13; refine W.condT rfl rfl<|W.sr rfl<|Ops.y rfl rfl rfl (any _) (Y.assignP rfl)<|Ops.done rfl<|W.ret rfl<|⟨_, Rslt.one results76 rfl, ?_⟩; refine ⟨?_, rfl⟩
      first | (rw [if_neg (by omega)]; rfl) | (rw [if_pos (by omega)]; exact ret_ptr (by omega))
  · replace hb9 := dT hb9; refine Ops.nn rfl<|Ops.nn rfl<|Ops.y rfl rfl rfl (any _) (Y.pB rfl rfl)<|Ops.done rfl<|W.condT rfl rfl<|W.sr rfl<|Ops.y rfl rfl rfl (any _) (Y.assignP rfl)<|Ops.done rfl<|W.ret rfl<|⟨_, Rslt.one results76 rfl, ?_⟩; refine ⟨?_, rfl⟩
    first | (rw [if_neg (by omega)]; rfl) | (rw [if_pos (by omega)]; exact ret_ptr (by omega))
theorem lcells_length : ∀ (l : List Rw), (∀ r ∈ l, r.Wf) → (lcells l).length = l.length * 130
  | [], _ => rfl
  | r :: l, h => by
    have ih := lcells_length l (fun x hx => h x (by simp [hx])); have := cells_length (h r (by simp)); simp only [lcells, List.flatMap_cons, List.length_append, List.length_cons] at ih ⊢; omega
structure LWf (N : Int) (rows : List Rw) : Prop where
  len : rows.length = 48
  wf : ∀ r ∈ rows, r.Wf
  age : ∀ r ∈ rows, ∀ x ∈ r.ring, 0 ≤ x.2 ∧ x.2 ≤ N
theorem split_at {rows : List Rw} {k : Nat} (hk : k < rows.length) : rows = rows.take k ++ rows.getD k zr :: rows.drop (k + 1) := by
  rw [List.getD_eq_getElem?_getD, List.getElem?_eq_getElem hk, Option.getD_some, ← List.drop_eq_getElem_cons hk, List.take_append_drop]
theorem lcells_at {rows : List Rw} {k : Nat} (hk : k < rows.length) : lcells rows = lcells (rows.take k) ++ (rows.getD k zr).cells ++ lcells (rows.drop (k + 1)) := by
  have := congrArg lcells (split_at hk); rw [this]; simp [lcells, List.flatMap_append, List.append_assoc]
theorem lcells_set {rows : List Rw} {k : Nat} (hk : k < rows.length) (r : Rw) : lcells (rows.take k) ++ r.cells ++ lcells (rows.drop (k + 1)) = lcells (rows.set k r) := by
  rw [List.set_eq_take_append_cons_drop, if_pos hk]; simp [lcells, List.flatMap_append, List.append_assoc]
theorem LWf.get {N : Int} {rows : List Rw} (h : LWf N rows) {k : Nat} (hk : k < 48) : rows.getD k zr ∈ rows := by
  rw [List.getD_eq_getElem?_getD, List.getElem?_eq_getElem (by rw [h.len]; exact hk)]; simp
theorem LWf.set {N : Int} {rows : List Rw} (h : LWf N rows) (k : Nat) {r : Rw} (hr : r.Wf) (ha : ∀ x ∈ r.ring, 0 ≤ x.2 ∧ x.2 ≤ N) : LWf N (rows.set k r) := by
  refine ⟨by simp [h.len], fun x hx => ?_, fun x hx => ?_⟩
  · rcases List.mem_or_eq_of_mem_set hx with h1 | rfl
    · exact h.wf x h1
    · exact hr
  · rcases List.mem_or_eq_of_mem_set hx with h1 | rfl
    · exact h.age x h1
    · exact ha
theorem LWf.pre {N : Int} {rows : List Rw} (h : LWf N rows) {k : Nat} (hk : k < 48) : (lcells (rows.take k)).length = k * 130 := by
  rw [lcells_length _ (fun r hr => h.wf r (List.mem_of_mem_take hr)), List.length_take, h.len, Nat.min_eq_left (by omega)]
def LR (b : Nat) (rows : List Rw) : Res := cellsR b (lcells rows) 190
theorem LR_at {b : Nat} {N : Int} {rows : List Rw} (h : LWf N rows) {k : Nat} (hk : k < 48) : LR b rows = rowR' b (lcells (rows.take k)) (rows.getD k zr) (lcells (rows.drop (k + 1))) := by
  unfold LR rowR'; rw [← lcells_at (by rw [h.len]; exact hk)]
theorem LR_set {b : Nat} {N : Int} {rows : List Rw} (h : LWf N rows) {k : Nat} (hk : k < 48) (r : Rw) : rowR' b (lcells (rows.take k)) r (lcells (rows.drop (k + 1))) = LR b (rows.set k r) := by
  unfold LR rowR'; rw [lcells_set (by rw [h.len]; exact hk)]
abbrev Qs := List (List It)
def QR (b : Nat) (N : Int) (qs : Qs) : Res where
  fp := [b]
  holds w := ∃ rows, LWf N rows ∧ rows.map Rw.items = qs ∧ (LR b rows).holds w
  loc w w' h := by rintro ⟨rows, h1, h2, h3⟩; exact ⟨rows, h1, h2, (LR b rows).loc w w' h h3⟩
section
variable {w0 w : World} {F0 : List Nat} {L G : List Res} {b : Nat} {N : Int} {qs : Qs}
theorem _root_.Go.Proofs.YtaanjifekgfemaaGreat.K.St.openQ (h : St w0 F0 w (QR b N qs :: L) G) : ∃ rows, LWf N rows ∧ rows.map Rw.items = qs ∧ St w0 F0 w (LR b rows :: L) G := by
  obtain ⟨rows, h1, h2, h3⟩ := h.res (QR b N qs) (by simp); exact ⟨rows, h1, h2, h.turn1 (by simp [LR, QR]) (by simp [LR]) (fun _ => h3)⟩
theorem _root_.Go.Proofs.YtaanjifekgfemaaGreat.K.St.shutQ {rows : List Rw} (h : St w0 F0 w (LR b rows :: L) G) (h1 : LWf N rows) (h2 : rows.map Rw.items = qs) : St w0 F0 w (QR b N qs :: L) G :=
  h.turn1 (by simp [LR, QR]) (by simp [QR]) (fun h3 => ⟨rows, h1, h2, h3⟩)
theorem _root_.Go.Proofs.YtaanjifekgfemaaGreat.K.St.shutQ' {rows : List Rw} (h : St w0 F0 w (LR b rows :: L) G) (h1 : LWf N rows) : St w0 F0 w (QR b N (rows.map Rw.items) :: L) G := St.shutQ h h1 rfl
end
theorem QR_len {b : Nat} {N : Int} {qs : Qs} {w : World} (h : (QR b N qs).holds w) : qs.length = 48 := by
  obtain ⟨rows, h1, rfl, _⟩ := h; simp [h1.len]
theorem zr_wf : zr.Wf := ⟨by simp [zr], by decide, by decide⟩
theorem new_wf : LWf 0 (List.replicate 48 zr) := by
  refine ⟨by simp, fun r hr => ?_, fun r hr x hx => ?_⟩
  · rw [List.eq_of_mem_replicate hr]; exact zr_wf
  · rw [List.eq_of_mem_replicate hr] at hx; have := List.eq_of_mem_replicate (show x ∈ List.replicate 64 e0 from hx); subst this; exact ⟨by decide, by decide⟩
theorem new_items : (List.replicate 48 zr).map Rw.items = List.replicate 48 [] := by rw [List.map_replicate]; rfl
theorem map_items_getD {N : Int} {rows : List Rw} (h : LWf N rows) {k : Nat} (hk : k < 48) : (rows.map Rw.items).getD k [] = (rows.getD k zr).items := by
  rw [List.getD_eq_getElem?_getD, List.getD_eq_getElem?_getD, List.getElem?_map, List.getElem?_eq_getElem (by rw [h.len]; exact hk)]; rfl
theorem map_items_set (rows : List Rw) (k : Nat) (r : Rw) : (rows.set k r).map Rw.items = (rows.map Rw.items).set k r.items := by rw [List.map_set]
theorem LWf.le {N M : Int} {rows : List Rw} (h : LWf N rows) (hm : N ≤ M) : LWf M rows := ⟨h.len, h.wf, fun r hr x hx => by have := h.age r hr x hx; omega⟩
def inR (who : Int) : Prop := 0 ≤ who ∧ who < 48
instance (who : Int) : Decidable (inR who) := by unfold inR; infer_instance
def qat (qs : Qs) (who : Int) : List It := qs.getD who.toNat []
def putQ (q : List It) (s : ByteArray) : List It := (if q.length = 64 then q.tail else q) ++ [(s, 0)]
def pushQ (qs : Qs) (who : Int) (s : ByteArray) : Qs := if inR who ∧ s.size ≤ 4096 then qs.set who.toNat (putQ (qat qs who) s) else qs
def pushE (qs : Qs) (who : Int) (s : ByteArray) : Int := if inR who then if s.size ≤ 4096 then if (qat qs who).length = 64 then 8 else 0 else 3 else 1
def popQ (qs : Qs) (who : Int) : Qs := if inR who then qs.set who.toNat (qat qs who).tail else qs
def popV (qs : Qs) (who : Int) : It := if inR who then (qat qs who).headD e0 else e0
def popB (qs : Qs) (who : Int) : Bool := decide (inR who ∧ qat qs who ≠ [])
def older (x : It) : It := (x.1, x.2 + 1)
def stay (most : Int) (q : List It) : List It := (q.map older).filter fun x => decide (x.2 ≤ most)
def tickQ (qs : Qs) (most : Int) : Qs := qs.map (stay most)
def tot (qs : Qs) : Nat := (qs.map List.length).sum
def tickN (qs : Qs) (most : Int) : Nat := tot qs - tot (tickQ qs most)
theorem age_push {N : Int} (hN : 0 ≤ N) {r : Rw} (h : ∀ x ∈ r.ring, 0 ≤ x.2 ∧ x.2 ≤ N) (s : ByteArray) : ∀ x ∈ (r.push s).ring, 0 ≤ x.2 ∧ x.2 ≤ N := by
  have hset : ∀ (l : List It) (k : Nat) (y : It), (∀ x ∈ l, 0 ≤ x.2 ∧ x.2 ≤ N) → (0 ≤ y.2 ∧ y.2 ≤ N) → ∀ x ∈ l.set k y, 0 ≤ x.2 ∧ x.2 ≤ N := by
    intro l k y h1 h2 x hx; rcases List.mem_or_eq_of_mem_set hx with h3 | rfl
    · exact h1 x h3
    · exact h2
  unfold Rw.push; split
  · exact hset _ _ _ (hset _ _ _ h ⟨Int.le_refl 0, hN⟩) ⟨Int.le_refl 0, hN⟩
  · exact hset _ _ _ h ⟨Int.le_refl 0, hN⟩
theorem age_pop {N : Int} (hN : 0 ≤ N) {r : Rw} (h : ∀ x ∈ r.ring, 0 ≤ x.2 ∧ x.2 ≤ N) : ∀ x ∈ r.pop.ring, 0 ≤ x.2 ∧ x.2 ≤ N := by
  intro x hx; rcases List.mem_or_eq_of_mem_set hx with h3 | rfl
  · exact h x h3
  · exact ⟨Int.le_refl 0, hN⟩
theorem items_getD {r : Rw} (h : r.Wf) (hc : 0 < r.count) : r.items.headD e0 = r.ring.getD r.first e0 ∧ r.items.tail = r.pop.items := by
  rw [Rw.items_pop h hc]; exact ⟨rfl, rfl⟩
section
variable {w0 w : World} {F0 : List Nat} {L G : List Res} {b : Nat} {N : Int} {rows : List Rw} {who : Int}
theorem inR.lt (h : inR who) : who.toNat < 48 := by unfold inR at h; omega
theorem qat_map (hw : LWf N rows) (h : inR who) : qat (rows.map Rw.items) who = (rows.getD who.toNat zr).items := map_items_getD hw h.lt
theorem push_done (hw : LWf N rows) (hN : 0 ≤ N) (h : inR who) {s : ByteArray} (hs : s.size ≤ 4096)
    (hst : St w0 F0 w (rowR' b (lcells (rows.take who.toNat)) ((rows.getD who.toNat zr).push s) (lcells (rows.drop (who.toNat + 1))) :: L) G) : St w0 F0 w (QR b N (pushQ (rows.map Rw.items) who s) :: L) G := by
  have hm := hw.get h.lt; rw [LR_set hw h.lt] at hst; refine St.shutQ hst (hw.set _ ((hw.wf _ hm).push s) (age_push hN (hw.age _ hm) s)) ?_; rw [map_items_set, Rw.items_push (hw.wf _ hm), show pushQ (rows.map Rw.items) who s = (rows.map Rw.items).set who.toNat (putQ (qat (rows.map Rw.items) who) s) from if_pos ⟨h, hs⟩]; unfold putQ; rw [qat_map hw h, Rw.items_length]
theorem pushE_eq (hw : LWf N rows) (h : inR who) {s : ByteArray} (hs : s.size ≤ 4096) : pushE (rows.map Rw.items) who s = if (rows.getD who.toNat zr).count = 64 then 8 else 0 := by
  unfold pushE; rw [if_pos h, if_pos hs, qat_map hw h, Rw.items_length]
theorem pop_done (hw : LWf N rows) (hN : 0 ≤ N) (h : inR who) (hc : 0 < (rows.getD who.toNat zr).count)
    (hst : St w0 F0 w (rowR' b (lcells (rows.take who.toNat)) ((rows.getD who.toNat zr).pop) (lcells (rows.drop (who.toNat + 1))) :: L) G) : St w0 F0 w (QR b N (popQ (rows.map Rw.items) who) :: L) G := by
  have hm := hw.get h.lt; rw [LR_set hw h.lt] at hst; refine St.shutQ hst (hw.set _ (hw.wf _ hm).pop (age_pop hN (hw.age _ hm))) ?_; rw [map_items_set]; unfold popQ; rw [if_pos h, qat_map hw h, (items_getD (hw.wf _ hm) hc).2]
theorem popV_eq (hw : LWf N rows) (h : inR who) (hc : 0 < (rows.getD who.toNat zr).count) : popV (rows.map Rw.items) who = (rows.getD who.toNat zr).ring.getD (rows.getD who.toNat zr).first e0 := by
  unfold popV; rw [if_pos h, qat_map hw h, (items_getD (hw.wf _ (hw.get h.lt)) hc).1]
theorem items_nil {r : Rw} (h : r.count = 0) : r.items = [] := List.eq_nil_of_length_eq_zero (by rw [Rw.items_length, h])
theorem items_ne {r : Rw} (h : r.count ≠ 0) : r.items ≠ [] := fun e => h (by rw [← Rw.items_length, e]; rfl)
theorem set_self {qs : Qs} {k : Nat} (h : qs.getD k [] = []) : qs.set k [] = qs := by
  apply List.ext_getElem?; intro i; rw [List.getElem?_set]; split
  · rename_i e; subst e; rw [List.getD_eq_getElem?_getD] at h; split
    · rename_i hl; rw [List.getElem?_eq_getElem hl] at h ⊢; simp at h; rw [h]
    · rename_i hl; rw [List.getElem?_eq_none (by omega)]
  · rfl
end
theorem cf76 : CF 76 := fun _ _ => by simp [go_sem]
theorem cf77 : CF 77 := fun _ _ => by simp [go_sem]
theorem row_in (b : Nat) (who : Int) (w : World) (h : inR who) : Calls Tryz.prog 76 #[.pointer (some ⟨b, 0, none⟩), .int .i64 who] w fun e w' => e = .returned (.pointer (some ⟨b, who.toNat * 130, none⟩)) ∧ w = w' :=
  (row_any b who w).mono fun e w' ⟨h1, h2⟩ => ⟨by rw [h1, if_pos (show 0 ≤ who ∧ who < 48 from h)], h2⟩
theorem row_out (b : Nat) (who : Int) (w : World) (h : ¬ inR who) : Calls Tryz.prog 76 #[.pointer (some ⟨b, 0, none⟩), .int .i64 who] w fun e w' => e = .returned (.pointer none) ∧ w = w' :=
  (row_any b who w).mono fun e w' ⟨h1, h2⟩ => ⟨by rw [h1, if_neg (show ¬ (0 ≤ who ∧ who < 48) from h)], h2⟩
theorem ret_int {i j : Int} (h : i = j) : Ending.returned (.int .i64 i) = .returned (.int .i64 j) := by rw [h]
theorem Push_in (b : Nat) (N : Int) (qs : Qs) (who : Int) (s : ByteArray) (w0 w : World) (F0 : List Nat) (L G : List Res) (hst : St w0 F0 w (QR b N qs :: L) G) (hN : 0 ≤ N) (hin : inR who) :
    Calls Tryz.prog 54 #[.pointer (some ⟨b, 0, none⟩), .int .i64 who, .string s] w fun e w' => e = .returned (.int .i64 (pushE qs who s)) ∧ St w0 F0 w' (QR b N (pushQ qs who s) :: L) G := by
  obtain ⟨rows, hw, rfl, hsu⟩ := hst.openQ; clear hst; have hst := hsu; clear hsu; have hm := hw.get hin.lt; have hr := hw.wf _ hm; have hpre := hw.pre hin.lt; rw [LR_at hw hin.lt] at hst; refine W.func func54 rfl ntmps54 rfl<|W.sr rfl<|hst.y rfl (Y.assignI rfl)<|Ops.ds rfl rfl<|hst.y rfl (Y.moveP rfl)<|hst.y rfl (Y.moveI rfl)<|Ops.ww rfl (X.call cf76 rfl<|?_); refine use_call (row_in b who _ hin) rfl ?_; rintro e w1 ⟨rfl, rfl⟩; refine ⟨_, rfl, ?_⟩; refine hst.y rfl (Y.assignP rfl)<|Ops.done rfl<|W.seq rfl<|W.block rfl<|W.sr rfl<|hst.y rfl (Y.moveP rfl)<|hst.y rfl (Y.isNil underlying94 rfl rfl)<|hst.y rfl (Y.assignB rfl)<|Ops.done rfl<|W.condF rfl rfl<|W.sr rfl<|hst.y rfl (Y.moveP rfl)<|hst.y rfl (Y.isNil underlying159 rfl rfl)<|hst.y rfl (Y.assignB rfl)<|Ops.done rfl<|W.condF rfl rfl<|W.sr rfl<|hst.y rfl (Y.moveT rfl)<|hst.y rfl (Y.lenT underlying9 rfl)<|hst.yb rfl (Y.gtr rfl rfl) (fun b20 hb20 => hst.y rfl (Y.assignB rfl)<|Ops.done rfl<|?_); cases b20
  · replace hb20 := dF hb20; refine W.condF rfl rfl<|W.sr rfl<|hst.y rfl (Y.moveP rfl)<|hst.y rfl (Y.moveT rfl)<|Ops.ww rfl (X.call cf77 rfl<|?_); refine use_call (push_any b _ _ _ _ s _ _ _ _ _ hst hpre hr) rfl ?_; rintro e w2 ⟨b24, rfl, hb24, hst⟩; refine ⟨_, rfl, ?_⟩; cases b24
    · replace hb24 := dF hb24; refine hst.y rfl (Y.not rfl)<|hst.y rfl (Y.assignB rfl)<|Ops.done rfl<|W.condT rfl rfl<|W.sr rfl<|hst.y rfl (Y.assignI rfl)<|Ops.done rfl<|W.ret rfl<|⟨_, Rslt.one results54 rfl, ?_⟩
      first
      | exact ⟨ret_int (by rw [pushE_eq hw hin (by omega), if_pos (by omega)]), push_done hw hN hin (by omega) hst⟩
      | exact ⟨ret_int (by rw [pushE_eq hw hin (by omega), if_neg (by omega)]), push_done hw hN hin (by omega) hst⟩
      | exact ⟨ret_int (by unfold pushE; rw [if_pos hin, if_neg (by omega)]), by unfold pushQ; rw [if_neg (fun h => by omega)]; rw [← LR_at hw hin.lt] at hst; exact St.shutQ' hst hw⟩
    · replace hb24 := dT hb24; refine hst.y rfl (Y.not rfl)<|hst.y rfl (Y.assignB rfl)<|Ops.done rfl<|W.condF rfl rfl<|W.skip rfl<|W.sr rfl<|hst.y rfl (Y.assignI rfl)<|Ops.done rfl<|W.ret rfl<|⟨_, Rslt.one results54 rfl, ?_⟩
      first
      | exact ⟨ret_int (by rw [pushE_eq hw hin (by omega), if_pos (by omega)]), push_done hw hN hin (by omega) hst⟩
      | exact ⟨ret_int (by rw [pushE_eq hw hin (by omega), if_neg (by omega)]), push_done hw hN hin (by omega) hst⟩
      | exact ⟨ret_int (by unfold pushE; rw [if_pos hin, if_neg (by omega)]), by unfold pushQ; rw [if_neg (fun h => by omega)]; rw [← LR_at hw hin.lt] at hst; exact St.shutQ' hst hw⟩
  · replace hb20 := dT hb20; refine W.condT rfl rfl<|W.sr rfl<|hst.y rfl (Y.assignI rfl)<|Ops.done rfl<|W.ret rfl<|⟨_, Rslt.one results54 rfl, ?_⟩
    first
    | exact ⟨ret_int (by rw [pushE_eq hw hin (by omega), if_pos (by omega)]), push_done hw hN hin (by omega) hst⟩
    | exact ⟨ret_int (by rw [pushE_eq hw hin (by omega), if_neg (by omega)]), push_done hw hN hin (by omega) hst⟩
    | exact ⟨ret_int (by unfold pushE; rw [if_pos hin, if_neg (by omega)]), by unfold pushQ; rw [if_neg (fun h => by omega)]; rw [← LR_at hw hin.lt] at hst; exact St.shutQ' hst hw⟩
theorem Push_out (b : Nat) (N : Int) (qs : Qs) (who : Int) (s : ByteArray) (w0 w : World) (F0 : List Nat) (L G : List Res) (hst : St w0 F0 w (QR b N qs :: L) G) (hN : 0 ≤ N) (hin : ¬ inR who) :
    Calls Tryz.prog 54 #[.pointer (some ⟨b, 0, none⟩), .int .i64 who, .string s] w fun e w' => e = .returned (.int .i64 (pushE qs who s)) ∧ St w0 F0 w' (QR b N (pushQ qs who s) :: L) G := by
  refine W.func func54 rfl ntmps54 rfl<|W.sr rfl<|hst.y rfl (Y.assignI rfl)<|Ops.ds rfl rfl<|hst.y rfl (Y.moveP rfl)<|hst.y rfl (Y.moveI rfl)<|Ops.ww rfl (X.call cf76 rfl<|?_); refine use_call (row_out b who _ hin) rfl ?_; rintro e w1 ⟨rfl, rfl⟩; refine ⟨_, rfl, ?_⟩; refine hst.y rfl (Y.assignP rfl)<|Ops.done rfl<|W.seq rfl<|W.block rfl<|W.sr rfl<|hst.y rfl (Y.moveP rfl)<|hst.y rfl (Y.isNil underlying94 rfl rfl)<|hst.y rfl (Y.assignB rfl)<|Ops.done rfl<|W.condF rfl rfl<|W.sr rfl<|hst.y rfl (Y.moveP rfl)<|hst.y rfl (Y.isNil underlying159 rfl rfl)<|hst.y rfl (Y.assignB rfl)<|Ops.done rfl<|W.condT rfl rfl<|W.sr rfl<|hst.y rfl (Y.assignI rfl)<|Ops.done rfl<|W.ret rfl<|⟨_, Rslt.one results54 rfl, ?_⟩; exact ⟨ret_int (by unfold pushE; rw [if_neg hin]), by unfold pushQ; rw [if_neg (fun h => hin h.1)]; exact hst⟩
theorem Push_any (b : Nat) (N : Int) (qs : Qs) (who : Int) (s : ByteArray) (w0 w : World) (F0 : List Nat) (L G : List Res) (hst : St w0 F0 w (QR b N qs :: L) G) (hN : 0 ≤ N) :
    Calls Tryz.prog 54 #[.pointer (some ⟨b, 0, none⟩), .int .i64 who, .string s] w fun e w' => e = .returned (.int .i64 (pushE qs who s)) ∧ St w0 F0 w' (QR b N (pushQ qs who s) :: L) G := by
  by_cases h : inR who
  · exact Push_in b N qs who s w0 w F0 L G hst hN h
  · exact Push_out b N qs who s w0 w F0 L G hst hN h
theorem ret_pop {x y : It} {c d : Bool} (h : x = y) (h2 : c = d) : Ending.returned (.tuple #[.agg #[.string x.1, .int .i64 x.2], .bool c]) = .returned (.tuple #[.agg #[.string y.1, .int .i64 y.2], .bool d]) := by rw [h, h2]
theorem Pop_in (b : Nat) (N : Int) (qs : Qs) (who : Int) (w0 w : World) (F0 : List Nat) (L G : List Res) (hst : St w0 F0 w (QR b N qs :: L) G) (hN : 0 ≤ N) (hin : inR who) :
    Calls Tryz.prog 58 #[.pointer (some ⟨b, 0, none⟩), .int .i64 who] w fun e w' => ∃ c, e = .returned (.tuple #[.agg #[.string (popV qs who).1, .int .i64 (popV qs who).2], .bool c]) ∧ c = popB qs who ∧ St w0 F0 w' (QR b N (popQ qs who) :: L) G := by
  obtain ⟨rows, hw, rfl, hsu⟩ := hst.openQ; clear hst; have hst := hsu; clear hsu; have hm := hw.get hin.lt; have hr := hw.wf _ hm; have hpre := hw.pre hin.lt; rw [LR_at hw hin.lt] at hst; refine W.func func58 rfl ntmps58 rfl<|W.sr rfl<|Ops.ww rfl (X.allocA hst zeroValue132<|?_); clear hst; intro p4 w4 hst; refine hst.y rfl (Y.assignB rfl)<|Ops.ds rfl rfl<|hst.y rfl (Y.moveP rfl)<|hst.y rfl (Y.moveI rfl)<|Ops.ww rfl (X.call cf76 rfl<|?_); refine use_call (row_in b who _ hin) rfl ?_; rintro e w1 ⟨rfl, rfl⟩; refine ⟨_, rfl, ?_⟩; refine hst.y rfl (Y.assignP rfl)<|Ops.done rfl<|W.seq rfl<|W.sr rfl<|hst.y rfl (Y.moveP rfl)<|hst.y rfl (Y.isNil underlying159 rfl rfl)<|hst.y rfl (Y.moveB rfl)<|hst.y rfl (Y.moveP rfl)<|hst.y rfl (Y.nilCheck rfl)<|?_
  first
  | refine hst.y rfl (Y.fieldAddr fa166_2 rfl) ?_
  | refine hst.y rfl (Y.fieldAddrP fa166_2 rfl) ?_
  first
  | refine hst.y rfl (Y.load 0 isAgg3 rfl rfl rfl) ?_
  | refine hst.y rfl (Y.load 1 isAgg3 rfl rfl (at_count hpre hr)) ?_
  refine hst.yb rfl (Y.eql rfl rfl) (fun b17 hb17 => hst.y rfl (Y.pB rfl rfl)<|Ops.done rfl<|?_); cases b17
  · replace hb17 := dF hb17; refine W.condF rfl rfl<|W.skip rfl<|W.sr rfl<|hst.y rfl (Y.moveP rfl)<|Ops.ww rfl (X.call cf80 rfl<|?_); refine use_call (pop_any b _ _ _ _ _ _ _ _ _ hst.swap hpre hr (by omega)) rfl ?_; clear hst; rintro e w2 ⟨rfl, hst⟩; refine ⟨_, rfl, ?_⟩; replace hst := hst.swap; refine Ops.ww rfl (X.storeS hst 0 sizeOf132 rfl rfl rfl rfl rfl (lZ rfl) rfl rfl ?_); clear hst; intro w4_2 hst
    try simp only [List.set_cons_zero, List.set_cons_succ, Nat.zero_add, Nat.reduceAdd, splice, List.take, List.drop, List.append_eq, List.nil_append, List.cons_append, List.length_cons, List.length_nil] at hst
    refine hst.y rfl (Y.assignB rfl)<|Ops.done rfl<|W.ret rfl<|⟨_, Rslt.cellTmp results58 rfl (run_load_agg isAgg132 sizeOf132 rfl (fun j v h => by rw [add_lit', hst.cell (.inl (List.Mem.head _)) (0 + j), Nat.zero_add]; exact h)) rfl, ?_⟩; refine ⟨_, ret_pop (popV_eq hw hin (by omega)).symm rfl, ?_, pop_done hw hN hin (by omega) hst.drop⟩; unfold popB; rw [qat_map hw hin]; exact (decide_eq_true ⟨hin, items_ne (by omega)⟩).symm
  · replace hb17 := dT hb17; refine W.condT rfl rfl<|W.sr rfl<|hst.y rfl (bd132_ rfl)<|Ops.ww rfl (X.storeS hst 0 sizeOf132 rfl rfl rfl rfl rfl (lZ rfl) rfl rfl<|?_); clear hst; intro w3_1 hst
    try simp only [List.set_cons_zero, List.set_cons_succ, Nat.zero_add, Nat.reduceAdd, splice, List.take, List.drop, List.append_eq, List.nil_append, List.cons_append, List.length_cons, List.length_nil] at hst
    refine hst.y rfl (Y.assignB rfl)<|Ops.done rfl<|W.ret rfl<|⟨_, Rslt.cellTmp results58 rfl (run_load_agg isAgg132 sizeOf132 rfl (fun j v h => by rw [add_lit', hst.cell (.inl (List.Mem.head _)) (0 + j), Nat.zero_add]; exact h)) rfl, ?_⟩; have hn := items_nil (r := rows.getD who.toNat zr) (by omega); have hst := hst.drop; rw [← LR_at hw hin.lt] at hst; refine ⟨_, ret_pop (x := e0) (by unfold popV; rw [if_pos hin, qat_map hw hin, hn]; rfl) rfl, ?_, ?_⟩
    · unfold popB; rw [qat_map hw hin]; exact (decide_eq_false (fun h => h.2 hn)).symm
    · have := St.shutQ' hst hw; unfold popQ; rw [if_pos hin, qat_map hw hin, hn, List.tail_nil, set_self (by rw [map_items_getD hw hin.lt]; exact hn)]; exact this
theorem Pop_out (b : Nat) (N : Int) (qs : Qs) (who : Int) (w0 w : World) (F0 : List Nat) (L G : List Res) (hst : St w0 F0 w (QR b N qs :: L) G) (hN : 0 ≤ N) (hin : ¬ inR who) :
    Calls Tryz.prog 58 #[.pointer (some ⟨b, 0, none⟩), .int .i64 who] w fun e w' => ∃ c, e = .returned (.tuple #[.agg #[.string (popV qs who).1, .int .i64 (popV qs who).2], .bool c]) ∧ c = popB qs who ∧ St w0 F0 w' (QR b N (popQ qs who) :: L) G := by
  refine W.func func58 rfl ntmps58 rfl<|W.sr rfl<|Ops.ww rfl (X.allocA hst zeroValue132<|?_); clear hst; intro p4 w4 hst; refine hst.y rfl (Y.assignB rfl)<|Ops.ds rfl rfl<|hst.y rfl (Y.moveP rfl)<|hst.y rfl (Y.moveI rfl)<|Ops.ww rfl (X.call cf76 rfl<|?_); refine use_call (row_out b who _ hin) rfl ?_; rintro e w1 ⟨rfl, rfl⟩; refine ⟨_, rfl, ?_⟩; refine hst.y rfl (Y.assignP rfl)<|Ops.done rfl<|W.seq rfl<|W.sr rfl<|hst.y rfl (Y.moveP rfl)<|hst.y rfl (Y.isNil underlying159 rfl rfl)<|hst.y rfl (Y.moveB rfl)<|Ops.nn rfl<|Ops.nn rfl<|Ops.nn rfl<|Ops.nn rfl<|Ops.nn rfl<|hst.y rfl (Y.pB rfl rfl)<|Ops.done rfl<|W.condT rfl rfl<|W.sr rfl<|hst.y rfl (bd132_ rfl)<|Ops.ww rfl (X.storeS hst 0 sizeOf132 rfl rfl rfl rfl rfl (lZ rfl) rfl rfl<|?_); clear hst; intro w3_1 hst
  try simp only [List.set_cons_zero, List.set_cons_succ, Nat.zero_add, Nat.reduceAdd, splice, List.take, List.drop, List.append_eq, List.nil_append, List.cons_append, List.length_cons, List.length_nil] at hst
  refine hst.y rfl (Y.assignB rfl)<|Ops.done rfl<|W.ret rfl<|⟨_, Rslt.cellTmp results58 rfl (run_load_agg isAgg132 sizeOf132 rfl (fun j v h => by rw [add_lit', hst.cell (.inl (List.Mem.head _)) (0 + j), Nat.zero_add]; exact h)) rfl, ?_⟩; refine ⟨_, ret_pop (x := e0) (by unfold popV; rw [if_neg hin]) rfl, ?_, ?_⟩
  · unfold popB; exact (decide_eq_false (fun h => hin h.1)).symm
  · unfold popQ; rw [if_neg hin]; exact hst.drop
theorem Pop_any (b : Nat) (N : Int) (qs : Qs) (who : Int) (w0 w : World) (F0 : List Nat) (L G : List Res) (hst : St w0 F0 w (QR b N qs :: L) G) (hN : 0 ≤ N) :
    Calls Tryz.prog 58 #[.pointer (some ⟨b, 0, none⟩), .int .i64 who] w fun e w' => ∃ c, e = .returned (.tuple #[.agg #[.string (popV qs who).1, .int .i64 (popV qs who).2], .bool c]) ∧ c = popB qs who ∧ St w0 F0 w' (QR b N (popQ qs who) :: L) G := by
  by_cases h : inR who
  · exact Pop_in b N qs who w0 w F0 L G hst hN h
  · exact Pop_out b N qs who w0 w F0 L G hst hN h
end Go.Proofs.YtaanjifekgfemaaGreat.LN
end
section
namespace Go.Proofs.YtaanjifekgfemaaGreat.Cl
open Tryz
open Go.RowKit Go.Proofs.YtaanjifekgfemaaGreat.K Go.Proofs.YtaanjifekgfemaaGreat.W Go.Proofs.YtaanjifekgfemaaGreat.LN
structure PU where
  who : Int
  s : Stt
  es : NT
  qs : Qs
structure UM where
  u : PU
  fb : Nat
  lb : Nat
  tb : Nat
  mb : Nat
  A : Option Addr
  cap : Nat
  clock : Nat
def UM.gate (m : UM) : Bool := decide (m.u.who < 16)
def UM.un (m : UM) : Un := ⟨m.u.who, match m.gate with | true => 150 | false => 154, m.fb, m.lb⟩
def gateR (p : Par) (m : UM) : Res := frR m.fb 153 p m.u.s m.A m.cap [.int .i64 m.u.who]
def nodeR (p : Par) (m : UM) : Res := frR m.fb 158 p m.u.s m.A m.cap [.int .i64 m.u.who, .pointer (some ⟨m.tb, 0, none⟩)]
def UM.fres (p : Par) (m : UM) : List Res := match m.gate with
  | true => [gateR p m]
  | false => [nodeR p m, cellsR m.tb [.map (some m.mb)] 204, mapR ikE nrV m.mb m.u.es m.clock]
def UM.lres (m : UM) : Res := QR m.lb 0 m.u.qs
structure UM.Ok (p : Par) (G : List Res) (m : UM) : Prop where
  fit : m.u.s.Fit p
  tab : Rds [] G (.slice m.A m.u.s.tab.length m.cap) m.u.s.tab.length (lcs m.u.s.tab)
  near : NearFit m.u.es
  qs : ∀ q ∈ m.u.qs, ∀ x ∈ q, x.1.size ≤ 4096
theorem UM.Ok.mono {p : Par} {G G' : List Res} {m : UM} (h : m.Ok p G) (hG : ∀ r ∈ G, r ∈ G') : m.Ok p G' := ⟨h.fit, h.tab.moreG hG, h.near, h.qs⟩
def qs0 : Qs := List.replicate 48 []
def freshP (p : Par) (who : Int) (s : Stt) : PU := ⟨who, sane p s, [], qs0⟩
theorem nearFit_nil : NearFit [] := ⟨by simp, by simp, by simp⟩
theorem qs0_fit : ∀ q ∈ qs0, ∀ x ∈ q, x.1.size ≤ 4096 := by
  intro q hq x hx; rw [List.eq_of_mem_replicate hq] at hx; cases hx
def unL (us : List UM) : List Un := us.map UM.un
end Go.Proofs.YtaanjifekgfemaaGreat.Cl
end
