/- What the proof rests on, part 3. -/
import Derived.Test.YtaanjifekgfemaaGreatM2
set_option linter.unusedVariables false
set_option linter.unusedSimpArgs false
set_option linter.unusedSectionVars false
section
namespace Go.Proofs.YtaanjifekgfemaaGreat.Cl
open Tryz
open Go.RowKit Go.Proofs.YtaanjifekgfemaaGreat.K Go.Proofs.YtaanjifekgfemaaGreat.W
attribute [local irreducible] bound clip adds sub neg mag mulp mul maxs
theorem fa57_0 : FA 57 0 0 := fun _ _ => by simp [Instr.fieldAt, Instr.sureAddr, go_sem]
theorem fa57_1 : FA 57 1 2 := fun _ _ => by simp [Instr.fieldAt, Instr.sureAddr, go_sem]
theorem fa57_6 : FA 57 6 7 := fun _ _ => by simp [Instr.fieldAt, Instr.sureAddr, go_sem]
theorem fa57_7 : FA 57 7 8 := fun _ _ => by simp [Instr.fieldAt, Instr.sureAddr, go_sem]
theorem fa57_8 : FA 57 8 10 := fun _ _ => by simp [Instr.fieldAt, Instr.sureAddr, go_sem]
theorem cf35 : CF 35 := fun _ _ => by simp [go_sem]
theorem cf37 : CF 37 := fun _ _ => by simp [go_sem]
theorem cf40 : CF 40 := fun _ _ => by simp [go_sem]
theorem cf41 : CF 41 := fun _ _ => by simp [go_sem]
theorem goodC_any (x : Int × Int) (hx : -4611686018427387904 ≤ x.1 - x.2 ∧ x.1 - x.2 ≤ 4611686018427387904) (w0 w : World) (F0 : List Nat) (L G : List Res) (hst : St w0 F0 w L G) :
    Calls Tryz.prog 66 #[.agg #[.int .i64 x.1, .int .i64 x.2]] w fun e w' => e = .returned (.bool (decide ((x.1 - x.2).tmod 86400 ≠ 0))) ∧ St w0 F0 w' L G := by
  refine W.func func66 rfl ntmps66 rfl<|W.sr rfl<|Ops.ww rfl (X.boxA hst rfl fun p1 w1 hst => hst.y rfl (Y.assignB rfl)<|Ops.ds rfl rfl<|hst.y rfl (Y.fieldAddr fa114_0 rfl)<|hst.y rfl (Y.load 0 isAgg3 rfl rfl rfl)<|hst.y rfl (Y.fieldAddr fa114_1 rfl)<|hst.y rfl (Y.load 0 isAgg3 rfl rfl rfl)<|hst.y rfl (Y.subI rfl rfl (by omega))<|hst.y rfl (Y.rem rfl rfl (by decide))<|?_); refine hst.yb rfl (Y.neq rfl rfl) (fun b9 hb9 => hst.y rfl (Y.assignB rfl)<|Ops.done rfl<|W.ret rfl<|⟨_, Rslt.one results66 rfl, ?_⟩); exact ⟨congrArg (fun b => Ending.returned (.bool b)) hb9, (hst.dr 1)⟩
theorem cf66 : CF 66 := fun _ _ => by simp [go_sem]
theorem tab_in {l : List (Int × Int)} (h : TabOk l) {x : Int × Int} (hx : x ∈ l) : -4611686018427387904 ≤ x.1 - x.2 ∧ x.1 - x.2 ≤ 4611686018427387904 := by
  obtain ⟨k, hk, rfl⟩ := List.getElem_of_mem hx; have h2 := h.2 k hk; have e : lp l k = l[k] := by simp [lp, hk]
  unfold okAt at h2; rw [e] at h2; omega
theorem good_tab (tab : List (Int × Int)) (A : Option Addr) (cap : Nat) (hl : tab.length ≤ 1000000) (hwf : ∀ x ∈ tab, In64 x.1 ∧ In64 x.2) (w0 w : World) (F0 : List Nat) (L G : List Res) (hst : St w0 F0 w L G) (hr : Rds L G (.slice A tab.length cap) tab.length (lcs tab)) :
    Calls Tryz.prog 41 #[.slice A tab.length cap] w fun e w' => ∃ b, e = .returned (.bool b) ∧ b = decide (goodTab tab) ∧ St w0 F0 w' L G := by
  refine W.func func41 rfl ntmps41 rfl<|W.sr rfl<|hst.y rfl (Y.assignB rfl)<|Ops.ds rfl rfl<|hst.y rfl (Y.moveS rfl)<|Ops.ww rfl (X.retB cf64 (table_b _ tab _ _ _ _ _ hst hr (by omega) hwf) rfl fun b4 w4 hb4 hst => hst.y rfl (Y.moveB rfl)<|?_); cases b4
  · replace hb4 := dF hb4; refine Ops.nn rfl<|Ops.nn rfl<|Ops.nn rfl<|hst.y rfl (Y.pB rfl rfl)<|hst.y rfl (Y.assignB rfl)<|Ops.done rfl<|W.ret rfl<|⟨_, Rslt.one results41 rfl, ?_⟩; exact ⟨_, rfl, (decide_eq_false (fun h => hb4 h.1)).symm, hst⟩
  · replace hb4 := dT hb4; refine hst.y rfl (Y.moveS rfl)<|Ops.ww rfl (X.retB cf65 (containsFunc_Leap pairC pairC_len (fun x : Int × Int => decide ((x.1 - x.2).tmod 86400 ≠ 0)) tab (by omega) _ _ 66 [] [] cf66 _ _ _ _ _ hst hr (fun x hx w hst => goodC_any x (tab_in hb4 hx) _ _ _ _ _ hst)) rfl fun b7 w7 hb7 hst => ?_); cases b7
    · replace hb7 := dF hb7; refine hst.y rfl (Y.not rfl)<|hst.y rfl (Y.pB rfl rfl)<|hst.y rfl (Y.assignB rfl)<|Ops.done rfl<|W.ret rfl<|⟨_, Rslt.one results41 rfl, ?_⟩; exact ⟨_, rfl, (decide_eq_true ⟨hb4, fun x hx => Decidable.not_not.1 (fun h => hb7 ⟨x, hx, decide_eq_true h⟩)⟩).symm, hst⟩
    · replace hb7 := dT hb7; refine hst.y rfl (Y.not rfl)<|hst.y rfl (Y.pB rfl rfl)<|hst.y rfl (Y.assignB rfl)<|Ops.done rfl<|W.ret rfl<|⟨_, Rslt.one results41 rfl, ?_⟩; exact ⟨_, rfl, (decide_eq_false (fun h => by obtain ⟨x, hx, hp⟩ := hb7; exact of_decide_eq_true hp (h.2 x hx))).symm, hst⟩
set_option maxHeartbeats 1000000 in
theorem sane_any (p : Par) (s : Stt) (A : Option Addr) (cap : Nat) (hl : s.tab.length ≤ 1000000) (hwf : ∀ x ∈ s.tab, In64 x.1 ∧ In64 x.2) (w0 w : World) (F0 : List Nat) (L G : List Res) (hst : St w0 F0 w L G) (hr : Rds [] G (.slice A s.tab.length cap) s.tab.length (lcs s.tab)) :
    Calls Tryz.prog 12 #[.agg #[.int .i64 p.N, .int .i64 p.F, .int .i64 p.D, .int .i64 p.Beat, .int .i64 p.Rho, .int .i64 p.Delay, .int .i64 p.Jitter, .int .i64 p.Eps, .int .i64 p.Mu, .int .i64 p.Hold, .int .i64 p.Pulse, .int .i64 p.Second], .agg #[.int .i64 s.lo, .int .i64 s.hi, .int .i64 s.time, .bool s.set, .int .i64 s.held, .int .i64 s.hops, .bool s.good, .slice A s.tab.length cap, .int .i64 s.st, .int .i64 s.sn, .int .i64 s.life]] w fun e w' => ∃ A' c', e = .returned (.agg #[.int .i64 (sane p s).lo, .int .i64 (sane p s).hi, .int .i64 (sane p s).time, .bool s.set, .int .i64 (sane p s).held, .int .i64 (sane p s).hops, .bool (sane p s).good, .slice A' (sane p s).tab.length c', .int .i64 (sane p s).st, .int .i64 (sane p s).sn, .int .i64 (sane p s).life]) ∧ St w0 F0 w' L (rowR (.slice A' (sane p s).tab.length c') 114 2 (sane p s).tab.length (lcs (sane p s).tab) :: G) := by
  refine W.func func12 rfl ntmps12 rfl<|W.sr rfl<|Ops.ww rfl (X.boxA hst rfl fun p2 w2 hst => Ops.ww rfl (X.boxA hst rfl fun p3 w3 hst => Ops.ww rfl (X.allocA hst zeroValue57 fun p4 w4 hst => Ops.ds rfl rfl<|hst.y rfl (Y.fieldAddr fa57_0 rfl)<|hst.y rfl (Y.fieldAddr fa53_0 rfl)<|hst.y rfl (Y.load 1 isAgg3 rfl rfl rfl)<|hst.y rfl (Y.fieldAddr fa57_0 rfl)<|hst.y rfl (Y.fieldAddr fa53_1 rfl)<|hst.y rfl (Y.load 1 isAgg3 rfl rfl rfl)<|Ops.ww rfl (X.ret cf35 (of_any _ _ _ _ _ _ _ hst ) rfl fun w11 hst => hst.y rfl (Y.fieldAddr fa57_0 rfl)<|Ops.ww rfl (X.storeS hst 1 sizeOf53 rfl rfl rfl rfl rfl (lZ rfl) rfl rfl fun w1_8 hst => Ops.done rfl<|W.seq rfl<|?_))))); refine W.cut [(2, .pointer _), (3, .pointer _), (4, .pointer _)] (fun _ : Unit => []) (fun _ w => St w0 F0 w (cellsR p4 [.int .i64 0, .int .i64 0, .int .i64 0, .bool false, .int .i64 0, .int .i64 0, .bool false, .slice none 0 0, .int .i64 0, .int .i64 0, .int .i64 0] 57 :: cellsR p3 [.int .i64 (sane p s).lo, .int .i64 (sane p s).hi, .int .i64 s.time, .bool s.set, .int .i64 s.held, .int .i64 s.hops, .bool (sane p s).good, .slice A s.tab.length cap, .int .i64 s.st, .int .i64 s.sn, .int .i64 s.life] 57 :: cellsR p2 [.int .i64 p.N, .int .i64 p.F, .int .i64 p.D, .int .i64 p.Beat, .int .i64 p.Rho, .int .i64 p.Delay, .int .i64 p.Jitter, .int .i64 p.Eps, .int .i64 p.Mu, .int .i64 p.Hold, .int .i64 p.Pulse, .int .i64 p.Second] 23 :: L) G) ⟨rfl, rfl, rfl, trivial⟩ ?_ ?_
  rotate_left
  · clear hst; rintro _ j w15 hst; refine W.seq rfl ?_; refine W.cut [(3, .pointer _), (4, .pointer _)] (fun _ : Unit => []) (fun _ w => St w0 F0 w (cellsR p4 [.int .i64 0, .int .i64 0, .int .i64 0, .bool false, .int .i64 0, .int .i64 0, .bool false, .slice none 0 0, .int .i64 0, .int .i64 0, .int .i64 0] 57 :: cellsR p3 [.int .i64 (sane p s).lo, .int .i64 (sane p s).hi, .int .i64 (sane p s).time, .bool s.set, .int .i64 (sane p s).held, .int .i64 (sane p s).hops, .bool (sane p s).good, .slice A s.tab.length cap, .int .i64 s.st, .int .i64 s.sn, .int .i64 s.life] 57 :: cellsR p2 [.int .i64 p.N, .int .i64 p.F, .int .i64 p.D, .int .i64 p.Beat, .int .i64 p.Rho, .int .i64 p.Delay, .int .i64 p.Jitter, .int .i64 p.Eps, .int .i64 p.Mu, .int .i64 p.Hold, .int .i64 p.Pulse, .int .i64 p.Second] 23 :: L) G) ⟨rfl, rfl, trivial⟩ ?_ ?_
    rotate_left
    · clear hst; rintro _ j w4 hst; refine W.sr rfl<|hst.y rfl (Y.fieldAddr fa57_8 rfl)<|hst.y rfl (Y.load 1 isAgg3 rfl rfl rfl)<|Ops.ww rfl (X.ret cf39 (bound_any _ _ _ _ _ _ _ _ hst ) rfl fun w37 hst => hst.y rfl (Y.fieldAddr fa57_8 rfl)<|Ops.ww rfl (X.storeV hst 1 (.int _ _) sizeOf3 rfl rfl rfl rfl (lZ rfl) rfl rfl fun w5_4 hst => Ops.ds rfl rfl<|hst.y rfl (Y.fieldAddr fa57_6 rfl)<|hst.y rfl (Y.load 1 isAgg41 rfl rfl rfl)<|Ops.ww rfl (X.call cf40 rfl<|?_))); refine use_call (clone_any _ _ s.tab hl _ _ _ _ _ hst hr.any) rfl ?_; clear hst; rintro e w41 ⟨A41, c41, rfl, hst⟩; refine ⟨_, rfl, ?_⟩; refine hst.y rfl (Y.fieldAddr fa57_6 rfl)<|Ops.ww rfl (X.storeV hst 1 (.slice _ _ _) sizeOf41 rfl rfl rfl rfl (lZ rfl) rfl rfl fun w6_4 hst => Ops.done rfl<|W.seq rfl<|?_); refine W.cut [(3, .pointer _), (4, .pointer _)] (fun _ : Option Addr × Nat => []) (fun x w => St w0 F0 w (cellsR p4 [.int .i64 0, .int .i64 0, .int .i64 0, .bool false, .int .i64 0, .int .i64 0, .bool false, .slice none 0 0, .int .i64 0, .int .i64 0, .int .i64 0] 57 :: cellsR p3 [.int .i64 (sane p s).lo, .int .i64 (sane p s).hi, .int .i64 (sane p s).time, .bool s.set, .int .i64 (sane p s).held, .int .i64 (sane p s).hops, .bool (sane p s).good, .slice x.1 (sane p s).tab.length x.2, .int .i64 s.st, .int .i64 s.sn, .int .i64 (sane p s).life] 57 :: cellsR p2 [.int .i64 p.N, .int .i64 p.F, .int .i64 p.D, .int .i64 p.Beat, .int .i64 p.Rho, .int .i64 p.Delay, .int .i64 p.Jitter, .int .i64 p.Eps, .int .i64 p.Mu, .int .i64 p.Hold, .int .i64 p.Pulse, .int .i64 p.Second] 23 :: L) (rowR (.slice x.1 (sane p s).tab.length x.2) 114 2 (sane p s).tab.length (lcs (sane p s).tab) :: G)) ⟨rfl, rfl, trivial⟩ ?_ ?_
      rotate_left
      · clear hst; rintro ⟨A9, c9⟩ j w9 hst; refine W.seq rfl ?_; refine W.cut [(3, .pointer _), (4, .pointer _)] (fun _ : Unit => []) (fun _ w => St w0 F0 w (cellsR p4 [.int .i64 0, .int .i64 0, .int .i64 0, .bool false, .int .i64 0, .int .i64 0, .bool false, .slice none 0 0, .int .i64 0, .int .i64 0, .int .i64 0] 57 :: cellsR p3 [.int .i64 (sane p s).lo, .int .i64 (sane p s).hi, .int .i64 (sane p s).time, .bool s.set, .int .i64 (sane p s).held, .int .i64 (sane p s).hops, .bool (sane p s).good, .slice A9 (sane p s).tab.length c9, .int .i64 (sane p s).st, .int .i64 (sane p s).sn, .int .i64 (sane p s).life] 57 :: cellsR p2 [.int .i64 p.N, .int .i64 p.F, .int .i64 p.D, .int .i64 p.Beat, .int .i64 p.Rho, .int .i64 p.Delay, .int .i64 p.Jitter, .int .i64 p.Eps, .int .i64 p.Mu, .int .i64 p.Hold, .int .i64 p.Pulse, .int .i64 p.Second] 23 :: L) (rowR (.slice A9 (sane p s).tab.length c9) 114 2 (sane p s).tab.length (lcs (sane p s).tab) :: G)) ⟨rfl, rfl, trivial⟩ ?_ ?_
        rotate_left
        · clear hst; rintro _ j w10 hst; refine W.sr rfl<|hst.y rfl (Y.loadA 1 isAgg57 sizeOf57 rfl rfl rfl rfl)<|Ops.ww rfl (X.storeS hst 0 sizeOf57 rfl rfl rfl rfl rfl (lZ rfl) rfl rfl fun w11_1 hst => Ops.done rfl<|W.ret rfl<|⟨_, Rslt.cell results12 rfl (res_at isAgg57 sizeOf57 0 hst rfl rfl), ?_⟩); exact ⟨_, _, rfl, (hst.dr 3)⟩
        refine W.sr rfl<|hst.y rfl (Y.fieldAddr fa57_7 rfl)<|hst.y rfl (Y.loadA 1 isAgg55 sizeOf55 rfl rfl rfl rfl)<|Ops.ww rfl (X.retB cf42 (right_any _ _ _ _ _ _ _ hst ) rfl fun b50 w50 hb50 hst => ?_); cases b50
        · replace hb50 := dF hb50; refine hst.y rfl (Y.not rfl)<|Ops.done rfl<|W.condT rfl rfl<|W.region rfl<|hst.y rfl (Y.fieldAddr fa57_1 rfl)<|hst.y rfl (Y.load 1 isAgg3 rfl rfl rfl)<|hst.y rfl (bd55_0 rfl)<|hst.y rfl (Y.fieldAddr fa57_7 rfl)<|Ops.ww rfl (X.storeS hst 1 sizeOf55 rfl rfl rfl rfl rfl (lZ rfl) rfl rfl fun w10_4 hst => Ops.done rfl<|?_); have e1 : (sane p s).st = clip s.time := if_neg hb50; have e2 : (sane p s).sn = 0 := if_neg hb50; exact ⟨(), trivial, ⟨rfl, rfl, trivial⟩, by rw [e1, e2]; exact hst⟩
        · replace hb50 := dT hb50; refine hst.y rfl (Y.not rfl)<|Ops.done rfl<|W.condF rfl rfl<|W.skip rfl<|?_; have e1 : (sane p s).st = s.st := if_pos hb50; have e2 : (sane p s).sn = s.sn := if_pos hb50; exact ⟨(), trivial, ⟨rfl, rfl, trivial⟩, by rw [e1, e2]; exact hst⟩
      refine W.sr rfl<|hst.y rfl (Y.fieldAddr fa57_6 rfl)<|hst.y rfl (Y.load 1 isAgg41 rfl rfl rfl)<|Ops.ww rfl (X.retB cf41 (good_tab s.tab _ _ hl hwf _ _ _ _ _ hst (Rds.rowG 0 rfl)) rfl fun b45 w45 hb45 hst => ?_); cases b45
      · replace hb45 := dF hb45; refine hst.y rfl (Y.not rfl)<|Ops.done rfl<|W.condT rfl rfl<|W.region rfl<|hst.y rfl (Y.fieldAddr fa57_6 rfl)<|Ops.ww rfl (X.storeV hst 1 (.slice _ _ _) sizeOf41 rfl rfl rfl rfl (lZ rfl) rfl rfl fun w8_1 hst => Ops.done rfl<|?_); have e : (sane p s).tab = [] := if_neg hb45; refine ⟨(none, 0), trivial, ⟨rfl, rfl, trivial⟩, ?_⟩; rw [e]; exact (St.forget hst).learn (rowR (.slice none 0 0) 114 2 0 []) (rowR_nil _ _ _) rfl
      · replace hb45 := dT hb45; refine hst.y rfl (Y.not rfl)<|Ops.done rfl<|W.condF rfl rfl<|W.skip rfl<|?_; have e : (sane p s).tab = s.tab := if_pos hb45; refine ⟨(A41, c41), trivial, ⟨rfl, rfl, trivial⟩, ?_⟩; rw [e]; exact hst
    refine hst.dv [14,15,16,17,18] (T0 [0,1,3,4,6,7,8,9] (.alt 2 (.op 13 0 (.alt 5 (T1 [10,11,12,14,15,16,17,18] .nil) (T1 [10,5,11,12,14,15,16,17,18] .nil))) (T1 [10,2] (.op 13 0 (T1 [5,11,12,14,15,16,17,18] .nil))))) rfl (by kernel_rfl) rfl (by kernel_rfl) fun wd hst => ?_; refine hst.z rfl (Y.fieldAddr fa57_1 rfl)<|hst.z rfl (Y.load 1 isAgg3 rfl rfl rfl)<|hst.z rfl (Y.fieldAddr fa57_3 rfl)<|hst.z rfl (Y.load 1 isAgg3 rfl rfl rfl)<|hst.z rfl (Y.fieldAddr fa57_4 rfl)<|hst.z rfl (Y.load 1 isAgg3 rfl rfl rfl)<|hst.z rfl (Y.fieldAddr fa23_2 rfl)<|hst.z rfl (Y.load 2 isAgg3 rfl rfl rfl)<|?_; refine Drw.alts (Alts.more ?_ (Alts.one ?_))
    · refine One.ww rfl (X.ret cf38 (clip_any _ _ _ _ _ _ hst ) rfl fun w21 hst => ⟨hst.ctx, hst.z rfl (Y.fieldAddr fa57_1 rfl)<|?_⟩); refine Drw.alts (Alts.more ?_ (Alts.one ?_))
      · refine One.ww rfl (X.ret cf39 (bound_any _ _ _ _ _ _ _ _ hst ) rfl fun w24 hst => ⟨hst.ctx, Drw.ww rfl (X.lits hst underlying24 sizeOf3 zeroValue3 (by rfl) (by rfl) (by rfl) [.int _ _, .int _ _] (by rfl) (by rfl) fun p29 w29 hst => ⟨(hst.cx 1), ?_⟩)⟩); refine Drw.ww rfl (X.ret cf27 (adds_any [p.D, 1] _ _ (by simp) _ _ _ _ _ hst (Rds.ofCells 0 rfl 2 2)) rfl fun w30 hst => ⟨(hst.cx 1), ?_⟩); refine Drw.ww rfl (X.ret cf39 (bound_any _ _ _ _ _ _ _ _ hst ) rfl fun w31 hst => ⟨(hst.cx 1), Drw.z rfl rfl rfl rfl (X.storeV hst 2 (.int _ _) sizeOf3 rfl rfl rfl rfl (lZ rfl) rfl rfl fun w4_14 hst => Drw.zy rfl rfl rfl rfl hst.ctx (Y.fieldAddr fa57_3 rfl)<|Drw.z rfl rfl rfl rfl (X.storeV hst 2 (.int _ _) sizeOf3 rfl rfl rfl rfl (lZ rfl) rfl rfl fun w4_16 hst => Drw.zy rfl rfl rfl rfl hst.ctx (Y.fieldAddr fa57_4 rfl)<|Drw.z rfl rfl rfl rfl (X.storeV hst 2 (.int _ _) sizeOf3 rfl rfl rfl rfl (lZ rfl) rfl rfl fun w4_18 hst => Drw.done<|?_)))⟩); exact ⟨(), trivial, ⟨rfl, rfl, trivial⟩, (hst.dr 1)⟩
      · refine One.ww rfl (X.lits hst underlying24 sizeOf3 zeroValue3 (by rfl) (by rfl) (by rfl) [.int _ _, .int _ _] (by rfl) (by rfl) fun p29 w29 hst => ⟨(hst.cx 1), ?_⟩); refine Drw.ww rfl (X.ret cf39 (bound_any _ _ _ _ _ _ _ _ hst ) rfl fun w24 hst => ⟨(hst.cx 1), Drw.ww rfl (X.ret cf27 (adds_any [p.D, 1] _ _ (by simp) _ _ _ _ _ hst (Rds.ofCells 0 rfl 2 2)) rfl fun w30 hst => ⟨(hst.cx 1), ?_⟩)⟩); refine Drw.ww rfl (X.ret cf39 (bound_any _ _ _ _ _ _ _ _ hst ) rfl fun w31 hst => ⟨(hst.cx 1), Drw.z rfl rfl rfl rfl (X.storeV hst 2 (.int _ _) sizeOf3 rfl rfl rfl rfl (lZ rfl) rfl rfl fun w4_14 hst => Drw.zy rfl rfl rfl rfl hst.ctx (Y.fieldAddr fa57_3 rfl)<|Drw.z rfl rfl rfl rfl (X.storeV hst 2 (.int _ _) sizeOf3 rfl rfl rfl rfl (lZ rfl) rfl rfl fun w4_16 hst => Drw.zy rfl rfl rfl rfl hst.ctx (Y.fieldAddr fa57_4 rfl)<|Drw.z rfl rfl rfl rfl (X.storeV hst 2 (.int _ _) sizeOf3 rfl rfl rfl rfl (lZ rfl) rfl rfl fun w4_18 hst => Drw.done<|?_)))⟩); exact ⟨(), trivial, ⟨rfl, rfl, trivial⟩, (hst.dr 1)⟩
    · refine One.ww rfl (X.lits hst underlying24 sizeOf3 zeroValue3 (by rfl) (by rfl) (by rfl) [.int _ _, .int _ _] (by rfl) (by rfl) fun p29 w29 hst => ⟨(hst.cx 1), ?_⟩); refine Drw.ww rfl (X.ret cf38 (clip_any _ _ _ _ _ _ hst ) rfl fun w21 hst => ⟨(hst.cx 1), Drw.q rfl (hst.cx 1) (Y.fieldAddr fa57_1 rfl)<|Drw.ww rfl (X.ret cf39 (bound_any _ _ _ _ _ _ _ _ hst ) rfl fun w24 hst => ⟨(hst.cx 1), Drw.ww rfl (X.ret cf27 (adds_any [p.D, 1] _ _ (by simp) _ _ _ _ _ hst (Rds.ofCells 0 rfl 2 2)) rfl fun w30 hst => ⟨(hst.cx 1), ?_⟩)⟩)⟩); refine Drw.ww rfl (X.ret cf39 (bound_any _ _ _ _ _ _ _ _ hst ) rfl fun w31 hst => ⟨(hst.cx 1), Drw.z rfl rfl rfl rfl (X.storeV hst 2 (.int _ _) sizeOf3 rfl rfl rfl rfl (lZ rfl) rfl rfl fun w4_14 hst => Drw.zy rfl rfl rfl rfl hst.ctx (Y.fieldAddr fa57_3 rfl)<|Drw.z rfl rfl rfl rfl (X.storeV hst 2 (.int _ _) sizeOf3 rfl rfl rfl rfl (lZ rfl) rfl rfl fun w4_16 hst => Drw.zy rfl rfl rfl rfl hst.ctx (Y.fieldAddr fa57_4 rfl)<|Drw.z rfl rfl rfl rfl (X.storeV hst 2 (.int _ _) sizeOf3 rfl rfl rfl rfl (lZ rfl) rfl rfl fun w4_18 hst => Drw.done<|?_)))⟩); exact ⟨(), trivial, ⟨rfl, rfl, trivial⟩, (hst.dr 1)⟩
  refine W.sr rfl<|hst.y rfl (Y.fieldAddr fa57_0 rfl)<|hst.y rfl (Y.loadA 1 isAgg53 sizeOf53 rfl rfl rfl rfl)<|Ops.ww rfl (X.retB cf36 (empty_any _ _ _ _ _ _ _ hst ) rfl fun b15 w15 hb15 hst => Ops.done rfl<|?_); cases b15
  · replace hb15 := dF hb15; refine W.condF rfl rfl<|W.skip rfl<|?_; have e : ¬ clip s.hi < clip s.lo := hb15; have e1 : (sane p s).lo = clip s.lo := if_neg e; have e2 : (sane p s).hi = clip s.hi := if_neg e; have e3 : (sane p s).good = s.good := if_neg e; exact ⟨(), trivial, ⟨rfl, rfl, rfl, trivial⟩, by rw [e1, e2, e3]; exact hst⟩
  · replace hb15 := dT hb15; refine W.condT rfl rfl<|W.region rfl<|Ops.ww rfl (X.ret cf37 (all_any  _ _ _ _ _ hst ) rfl fun w16 hst => hst.y rfl (Y.fieldAddr fa57_0 rfl)<|Ops.ww rfl (X.storeS hst 1 sizeOf53 rfl rfl rfl rfl rfl (lZ rfl) rfl rfl fun w3_2 hst => hst.y rfl (Y.fieldAddr fa57_5 rfl)<|Ops.ww rfl (X.storeV hst 1 (.bool _) sizeOf4 rfl rfl rfl rfl (lZ rfl) rfl rfl fun w3_4 hst => Ops.done rfl<|?_))); have e : clip s.hi < clip s.lo := hb15; have e1 : (sane p s).lo = -2305843009213693952 := if_pos e; have e2 : (sane p s).hi = 2305843009213693952 := if_pos e; have e3 : (sane p s).good = false := if_pos e; exact ⟨(), trivial, ⟨rfl, rfl, rfl, trivial⟩, by rw [e1, e2, e3]; exact hst⟩
end Go.Proofs.YtaanjifekgfemaaGreat.Cl
end
section
namespace Go.Proofs.YtaanjifekgfemaaGreat.Cl
open Tryz
open Go.RowKit Go.Proofs.YtaanjifekgfemaaGreat.K Go.Proofs.YtaanjifekgfemaaGreat.W
def parC (p : Par) : List Value := [.int .i64 p.N, .int .i64 p.F, .int .i64 p.D, .int .i64 p.Beat, .int .i64 p.Rho, .int .i64 p.Delay, .int .i64 p.Jitter, .int .i64 p.Eps, .int .i64 p.Mu, .int .i64 p.Hold, .int .i64 p.Pulse, .int .i64 p.Second]
def sttC (s : Stt) (A : Option Addr) (cap : Nat) : List Value := [.int .i64 s.lo, .int .i64 s.hi, .int .i64 s.time, .bool s.set, .int .i64 s.held, .int .i64 s.hops, .bool s.good, .slice A s.tab.length cap, .int .i64 s.st, .int .i64 s.sn, .int .i64 s.life]
def frC (p : Par) (s : Stt) (A : Option Addr) (cap : Nat) (rest : List Value) : List Value := parC p ++ (sttC s A cap ++ rest)
def frR (b : Nat) (T : TypeId) (p : Par) (s : Stt) (A : Option Addr) (cap : Nat) (rest : List Value) : Res := cellsR b (frC p s A cap rest) T
def mostS (p : Par) (s : Stt) : Int := adds [s.hi, far p s.held]
def Stt.stamped (s : Stt) (x : Sta) : Stt := { s with st := x.t, sn := x.n }
def Stt.sta (s : Stt) : Sta := ⟨s.st, s.sn⟩
def stampS (s : Stt) : Stt := s.stamped (s.sta.tick s.time)
def hearS (p : Par) (s : Stt) (x : Sta) : Stt := s.stamped (s.sta.hear s.time x (mostS p s))
def jumpS (p : Par) (s : Stt) (ticks : Int) (nx : Stt) : Prop := healthOf p s = 0 ∨ far p nx.held < mag (sub (Sp.mid ⟨nx.lo, nx.hi⟩) (adds [s.time, ticks]))
instance (p : Par) (s : Stt) (ticks : Int) (nx : Stt) : Decidable (jumpS p s ticks nx) := by unfold jumpS; infer_instance
def slewS (p : Par) (s : Stt) (ticks : Int) (nx : Stt) : Int := slew p s.time s.set ticks (Sp.mid ⟨nx.lo, nx.hi⟩) (decide (jumpS p s ticks nx))
def midS (p : Par) (s : Stt) (ticks : Int) (nx : Stt) : Stt := { sane p nx with time := slewS p s ticks nx, set := true, st := s.st, sn := s.sn, life := bound s.life 0 2305843009213693952 }
def anewS (p : Par) (s : Stt) (ticks : Int) (nx : Stt) : Prop := s.sta.mended (mostS p (midS p s ticks nx)) ∨ slewS p s ticks nx < s.time
instance (p : Par) (s : Stt) (ticks : Int) (nx : Stt) : Decidable (anewS p s ticks nx) := by unfold anewS; infer_instance
def beatS (p : Par) (s : Stt) (ticks : Int) (nx : Stt) : Stt := (midS p s ticks nx).stamped ((s.sta.mend (slewS p s ticks nx) (mostS p (midS p s ticks nx))).tick (slewS p s ticks nx))
def stepS (p : Par) (s : Stt) (ticks : Int) (nx : Stt) : Stt :=
  if anewS p s ticks nx then { beatS p s ticks nx with life := bound (adds [bound s.life 0 2305843009213693952, 1]) 0 2305843009213693952 } else beatS p s ticks nx
structure Stt.Fit (p : Par) (s : Stt) : Prop where
  span : -2305843009213693952 ≤ s.lo ∧ s.lo ≤ s.hi ∧ s.hi ≤ 2305843009213693952
  time : -2305843009213693952 ≤ s.time ∧ s.time ≤ 2305843009213693952
  held : 0 ≤ s.held ∧ s.held ≤ 1073741824
  hops : 0 ≤ s.hops ∧ s.hops ≤ p.D + 1
  tab : goodTab s.tab
  right : s.sta.Right
  life : 0 ≤ s.life ∧ s.life ≤ 2305843009213693952
theorem goodTab_nil : goodTab [] := by decide
theorem right_iff (t n : Int) : Sta.Right ⟨t, n⟩ ↔ -2305843009213693952 ≤ t ∧ t ≤ 2305843009213693952 ∧ 0 ≤ n ∧ n ≤ 1073741824 := Iff.rfl
theorem adds_id2 {a b : Int} (ha : -1000000000000000000 ≤ a ∧ a ≤ 1000000000000000000) (hb : -1000000000000000000 ≤ b ∧ b ≤ 1000000000000000000) : adds [a, b] = a + b := by
  simp only [adds, List.foldl_cons, List.foldl_nil]; rw [clip_id (x := a) (by omega), clip_id (x := b) (by omega), clip_id (x := 0 + a) (by omega), clip_id (x := 0 + a + b) (by omega)]; omega
theorem next_right {s : Sta} (h : s.Right) : s.next.Right := by
  have h2 := (right_iff s.t s.n).1 h; unfold Sta.next; split
  · exact ⟨(adds_in _).1, (adds_in _).2, (by decide : (0 : Int) ≤ 0), (by decide : (0 : Int) ≤ 1073741824)⟩
  · rename_i h3; refine ⟨(clip_in _).1, (clip_in _).2, ?_, ?_⟩ <;> simp only <;> omega
theorem tick_right {s : Sta} (h : s.Right) (now : Int) : (s.tick now).Right := by
  unfold Sta.tick; split
  · exact ⟨(clip_in _).1, (clip_in _).2, (by decide : (0 : Int) ≤ 0), (by decide : (0 : Int) ≤ 1073741824)⟩
  · exact next_right h
theorem mend_right (s : Sta) (now most : Int) : (s.mend now most).Right := by
  unfold Sta.mend; split
  · exact ⟨(clip_in _).1, (clip_in _).2, (by decide : (0 : Int) ≤ 0), (by decide : (0 : Int) ≤ 1073741824)⟩
  · rename_i h; exact (Decidable.not_not.1 h).1
theorem next_right' {s : Sta} (h : -2305843009213693952 ≤ s.t ∧ s.t ≤ 2305843009213693952 ∧ -1 ≤ s.n ∧ s.n ≤ 1073741824) : s.next.Right := by
  unfold Sta.next; split
  · exact ⟨(adds_in _).1, (adds_in _).2, (by decide : (0 : Int) ≤ 0), (by decide : (0 : Int) ≤ 1073741824)⟩
  · rename_i h3; refine ⟨(clip_in _).1, (clip_in _).2, ?_, ?_⟩ <;> simp only <;> omega
theorem hear_right {c : Sta} (h : c.Right) (now : Int) (s : Sta) (most : Int) : (c.hear now s most).Right := by
  unfold Sta.hear; split
  · exact tick_right h now
  · rename_i h2
    have hs : s.Right := by
      rcases Decidable.em s.Right with h3 | h3
      · exact h3
      · exact absurd (.inl h3) h2
    have h3 := (right_iff s.t s.n).1 hs; have h4 := (right_iff c.t c.n).1 h; have h5 := clip_in now; refine next_right' ?_; have hl : ∀ a b : Sta, (a.later b = a ∨ a.later b = b) := fun a b => by unfold Sta.later; split <;> simp
    rcases hl (c.later s) ⟨clip now, -1⟩ with e | e <;> rw [e]
    · rcases hl c s with e | e <;> rw [e] <;> omega
    · exact ⟨h5.1, h5.2, (by decide : (-1 : Int) ≤ -1), (by decide : (-1 : Int) ≤ 1073741824)⟩
theorem sane_fit {p : Par} (hp : p.Ok) (s : Stt) : (sane p s).Fit p := by
  have hD := hp.D; have e : adds [p.D, 1] = p.D + 1 := adds_id2 (by omega) (by omega); have h1 := clip_in s.lo; have h2 := clip_in s.hi; refine ⟨?_, clip_in _, bound_in _ _ _ (by decide), ?_, ?_, ?_, bound_in _ _ _ (by decide)⟩
  · simp only [sane]; split
    · decide
    · omega
  · have := bound_in s.hops 0 (adds [p.D, 1]) (by omega); simp only [sane]; omega
  · simp only [sane]; split
    · assumption
    · exact goodTab_nil
  · simp only [sane, Stt.sta]; split
    · assumption
    · exact ⟨(clip_in _).1, (clip_in _).2, (by decide : (0 : Int) ≤ 0), (by decide : (0 : Int) ≤ 1073741824)⟩
theorem slew_in (p : Par) (time : Int) (set : Bool) (ticks to : Int) (jump : Bool) : -2305843009213693952 ≤ slew p time set ticks to jump ∧ slew p time set ticks to jump ≤ 2305843009213693952 := by
  unfold slew; split
  · exact clip_in _
  · exact adds_in _
theorem midS_fit {p : Par} (hp : p.Ok) {s : Stt} (hs : s.Fit p) (ticks : Int) (nx : Stt) : (midS p s ticks nx).Fit p := by
  have h := sane_fit hp nx; exact ⟨h.span, slew_in _ _ _ _ _ _, h.held, h.hops, h.tab, hs.right, bound_in _ _ _ (by decide)⟩
theorem Stt.Fit.stamped {p : Par} {s : Stt} (h : s.Fit p) {x : Sta} (hx : x.Right) : (s.stamped x).Fit p := ⟨h.span, h.time, h.held, h.hops, h.tab, hx, h.life⟩
theorem stampS_fit {p : Par} {s : Stt} (h : s.Fit p) : (stampS s).Fit p := h.stamped (tick_right h.right _)
theorem hearS_fit {p : Par} {s : Stt} (h : s.Fit p) (x : Sta) : (hearS p s x).Fit p := h.stamped (hear_right h.right _ _ _)
theorem beatS_fit {p : Par} (hp : p.Ok) {s : Stt} (hs : s.Fit p) (ticks : Int) (nx : Stt) : (beatS p s ticks nx).Fit p := (midS_fit hp hs ticks nx).stamped (tick_right (mend_right _ _ _) _)
theorem stepS_fit {p : Par} (hp : p.Ok) {s : Stt} (hs : s.Fit p) (ticks : Int) (nx : Stt) : (stepS p s ticks nx).Fit p := by
  have h := beatS_fit hp hs ticks nx; unfold stepS; split
  · exact ⟨h.span, h.time, h.held, h.hops, h.tab, h.right, bound_in _ _ _ (by decide)⟩
  · exact h
theorem bound_id {x lo hi : Int} (h : lo ≤ x ∧ x ≤ hi) : bound x lo hi = x := by unfold bound; rw [if_neg (by omega), if_neg (by omega)]
theorem sane_id {p : Par} (hp : p.Ok) {s : Stt} (h : s.Fit p) : sane p s = s := by
  have hD := hp.D; have e : adds [p.D, 1] = p.D + 1 := adds_id2 (by omega) (by omega); obtain ⟨h1, h2, h3, h4, h5, h6, h7⟩ := h; have e1 : clip s.lo = s.lo := clip_id (by omega); have e2 : clip s.hi = s.hi := clip_id (by omega); have h6' : Sta.Right ⟨s.st, s.sn⟩ := h6; rcases s with ⟨lo, hi, time, set, held, hops, good, tab, st, sn, life⟩
  simp only [sane, e, Stt.mk.injEq] at *; simp only [e1, e2]; refine ⟨if_neg (by omega), if_neg (by omega), clip_id h2, trivial, bound_id h3, bound_id h4, if_neg (by omega), if_pos h5, if_pos h6', if_pos h6', bound_id h7⟩
end Go.Proofs.YtaanjifekgfemaaGreat.Cl
namespace Go.Proofs.YtaanjifekgfemaaGreat.Cl
open Tryz
theorem mend_n (c : Sta) (now most : Int) : (c.mend now most).n ≤ 9223372036854775806 := by
  have h : (c.mend now most).n ≤ 1073741824 := (mend_right c now most).2.2.2; omega
theorem stepS_tab (p : Par) (s : Stt) (ticks : Int) (nx : Stt) : (stepS p s ticks nx).tab = (sane p nx).tab := by
  unfold stepS; split <;> rfl
end Go.Proofs.YtaanjifekgfemaaGreat.Cl
end
section
namespace Go.Proofs.YtaanjifekgfemaaGreat.Cl
open Tryz
open Go.RowKit Go.Proofs.YtaanjifekgfemaaGreat.K Go.Proofs.YtaanjifekgfemaaGreat.W
attribute [local irreducible] bound clip adds sub neg mag mulp mul maxs
theorem fl244_0 {x0_0 : Int} {x0_1 : Int} (w : World) : (Instr.field 244 (.agg #[Value.int .i64 x0_0, Value.int .i64 x0_1]) 0).run Tryz.prog w = .ok (.agg #[Value.int .i64 x0_0, Value.int .i64 x0_1]) w := by
  simp [Instr.field, go_sem] <;> rfl
theorem fa60_0 : FA 60 0 0 := fun _ _ => by simp [Instr.fieldAt, Instr.sureAddr, go_sem]
theorem fa60_1 : FA 60 1 12 := fun _ _ => by simp [Instr.fieldAt, Instr.sureAddr, go_sem]
theorem cf12 : CF 12 := fun _ _ => by simp [go_sem]
theorem cf21 : CF 21 := fun _ _ => by simp [go_sem]
theorem cf47 : CF 47 := fun _ _ => by simp [go_sem]
theorem cf48 : CF 48 := fun _ _ => by simp [go_sem]
theorem cf50 : CF 50 := fun _ _ => by simp [go_sem]
theorem cf131 : CF 131 := fun _ _ => by simp [go_sem]
theorem cf132 : CF 132 := fun _ _ => by simp [go_sem]
theorem cf133 : CF 133 := fun _ _ => by simp [go_sem]
theorem cf134 : CF 134 := fun _ _ => by simp [go_sem]
theorem cf135 : CF 135 := fun _ _ => by simp [go_sem]
theorem cf186 : CF 186 := fun _ _ => by simp [go_sem]
theorem health_any (b : Nat) (T : TypeId) (p : Par) (s : Stt) (A : Option Addr) (cap : Nat) (rest : List Value)  (w0 w : World) (F0 : List Nat) (L G : List Res) (hst : St w0 F0 w (frR b T p s A cap rest :: L) G)  :
    Calls Tryz.prog 21 #[.pointer (some ⟨b, 0, none⟩)] w fun e w' => e = .returned (.int .i64 (healthOf p s)) ∧ St w0 F0 w' (frR b T p (s) A cap rest :: L) G := by
  refine W.func func21 rfl ntmps21 rfl<|W.sr rfl<|hst.y rfl (Y.assignI rfl)<|Ops.done rfl<|W.seq rfl<|W.sr rfl<|hst.y rfl (Y.moveP rfl)<|hst.y rfl (Y.isNil underlying50 rfl rfl)<|Ops.done rfl<|W.condF rfl rfl<|W.skip rfl<|W.seq rfl<|W.drawn rfl (by kernel_rfl) (Ctx _ _ (_) (_)) [] (.op 0 0 (.op 1 0 (.op 2 0 (.op 3 0 (.op 4 0 (.op 5 0 (.op 6 0 (.op 7 0 (.op 8 1 (.op 9 0 .nil)))))))))) rfl (by kernel_rfl) hst.drew.ctx<|?_; replace hst := hst.drew; generalize World.drew _ = wd at hst ⊢; refine hst.z rfl (Y.moveP rfl)<|hst.z rfl (Y.nilCheck rfl)<|hst.z rfl (Y.fieldAddr fa60_0 rfl)<|hst.z rfl (Y.loadA 0 isAgg23 sizeOf23 rfl rfl rfl rfl)<|hst.z rfl (Y.moveP rfl)<|hst.z rfl (Y.nilCheck rfl)<|hst.z rfl (Y.fieldAddr fa60_1 rfl)<|hst.z rfl (Y.loadA 0 isAgg57 sizeOf57 rfl rfl rfl rfl)<|Drw.ww rfl (X.ret cf50 (of_health p s _ _ _ _ _ _ _ hst ) rfl fun w13 hst => ⟨hst.ctx, hst.z rfl (Y.assignI rfl)<|Drw.done<|W.ret rfl<|⟨_, Rslt.one results21 rfl, ?_⟩⟩); exact ⟨rfl, hst⟩
theorem synced_any (b : Nat) (T : TypeId) (p : Par) (s : Stt) (A : Option Addr) (cap : Nat) (rest : List Value)  (w0 w : World) (F0 : List Nat) (L G : List Res) (hst : St w0 F0 w (frR b T p s A cap rest :: L) G)  :
    Calls Tryz.prog 47 #[.pointer (some ⟨b, 0, none⟩)] w fun e w' => e = .returned (.int .i64 (if healthOf p s = 0 then 20 else 0)) ∧ St w0 F0 w' (frR b T p (s) A cap rest :: L) G := by
  refine W.func func47 rfl ntmps47 rfl<|W.sr rfl<|hst.y rfl (Y.assignI rfl)<|Ops.done rfl<|W.seq rfl<|W.block rfl<|W.sr rfl<|hst.y rfl (Y.moveP rfl)<|hst.y rfl (Y.isNil underlying50 rfl rfl)<|hst.y rfl (Y.assignB rfl)<|Ops.done rfl<|W.condF rfl rfl<|W.sr rfl<|hst.y rfl (Y.moveP rfl)<|Ops.ww rfl (X.ret cf21 (health_any b T p s A cap rest _ _ _ _ _ hst) rfl fun w8 hst => hst.yb rfl (Y.eql rfl rfl) (fun b9 hb9 => hst.y rfl (Y.assignB rfl)<|Ops.done rfl<|?_)); cases b9
  · replace hb9 := dF hb9; refine W.condF rfl rfl<|W.skip rfl<|W.sr rfl<|hst.y rfl (Y.assignI rfl)<|Ops.done rfl<|W.ret rfl<|⟨_, Rslt.one results47 rfl, ?_⟩; exact ⟨ret_int (if_neg hb9).symm, hst⟩
  · replace hb9 := dT hb9; refine W.condT rfl rfl<|W.sr rfl<|hst.y rfl (Y.assignI rfl)<|Ops.done rfl<|W.ret rfl<|⟨_, Rslt.one results47 rfl, ?_⟩; exact ⟨ret_int (if_pos hb9).symm, hst⟩
theorem pulse_any (b : Nat) (T : TypeId) (p : Par) (s : Stt) (A : Option Addr) (cap : Nat) (rest : List Value)  (w0 w : World) (F0 : List Nat) (L G : List Res) (hst : St w0 F0 w (frR b T p s A cap rest :: L) G)  :
    Calls Tryz.prog 19 #[.pointer (some ⟨b, 0, none⟩)] w fun e w' => (∃ n, e = .returned (.tuple #[.int .i64 n, .int .i64 (if healthOf p s = 0 then 20 else 0)]) ∧ n = (if healthOf p s = 0 then 0 else pulseNo p s.time)) ∧ St w0 F0 w' (frR b T p (s) A cap rest :: L) G := by
  refine W.func func19 rfl ntmps19 rfl<|W.sr rfl<|hst.y rfl (Y.assignI rfl)<|hst.y rfl (Y.assignI rfl)<|Ops.done rfl<|W.seq rfl<|W.sr rfl<|hst.y rfl (Y.moveP rfl)<|Ops.ww rfl (X.ret cf47 (synced_any b T p s A cap rest _ _ _ _ _ hst) rfl fun w6 hst => hst.y rfl (Y.assignI rfl)<|Ops.ds rfl rfl<|hst.y rfl (Y.moveI rfl)<|hst.yb rfl (Y.neq rfl rfl) (fun b8 hb8 => Ops.done rfl<|?_)); cases b8
  · replace hb8 := dF hb8; refine W.condF rfl rfl<|W.skip rfl<|W.seq rfl<|W.drawn rfl (by kernel_rfl) (Ctx _ _ (_) (_)) [] (.op 0 0 (.op 1 0 (.op 2 0 (.op 3 0 (.op 4 0 (.op 5 0 (.op 6 0 (.op 7 0 (.op 8 0 (.op 9 1 (.op 10 0 (.op 11 0 .nil)))))))))))) rfl (by kernel_rfl) hst.drew.ctx<|?_; replace hst := hst.drew; generalize World.drew _ = wd at hst ⊢; refine hst.z rfl (Y.moveP rfl)<|hst.z rfl (Y.nilCheck rfl)<|hst.z rfl (Y.fieldAddr fa60_0 rfl)<|hst.z rfl (Y.loadA 0 isAgg23 sizeOf23 rfl rfl rfl rfl)<|hst.z rfl (Y.moveP rfl)<|hst.z rfl (Y.nilCheck rfl)<|hst.z rfl (Y.fieldAddr fa60_1 rfl)<|hst.z rfl (Y.fieldAddr fa57_1 rfl)<|hst.z rfl (Y.load 0 isAgg3 rfl rfl rfl)<|Drw.ww rfl (X.ret cf48 (pulseNo_any p _ _ _ _ _ _ hst ) rfl fun w19 hst => ⟨hst.ctx, hst.z rfl (Y.assignI rfl)<|hst.z rfl (Y.assignI rfl)<|Drw.done<|W.ret rfl<|⟨_, Rslt.two results19 rfl rfl, ?_⟩⟩)
    first
    | (have hh : healthOf p s = 0 := Decidable.by_contra fun h => hb8 (if_neg h)
       exact ⟨⟨0, rfl, (if_pos hh).symm⟩, hst⟩)
    | (have hh : ¬ healthOf p s = 0 := fun h => by rw [if_pos h] at hb8; exact absurd hb8 (by decide)
       exact ⟨⟨pulseNo p s.time, congrArg (fun z => Ending.returned (.tuple #[.int .i64 (pulseNo p s.time), .int .i64 z])) (if_neg hh).symm, (if_neg hh).symm⟩, hst⟩)
  · replace hb8 := dT hb8; refine W.condT rfl rfl<|W.sr rfl<|hst.y rfl (Y.moveI rfl)<|hst.y rfl (Y.assignI rfl)<|hst.y rfl (Y.assignI rfl)<|Ops.done rfl<|W.ret rfl<|⟨_, Rslt.two results19 rfl rfl, ?_⟩
    first
    | (have hh : healthOf p s = 0 := Decidable.by_contra fun h => hb8 (if_neg h)
       exact ⟨⟨0, rfl, (if_pos hh).symm⟩, hst⟩)
    | (have hh : ¬ healthOf p s = 0 := fun h => by rw [if_pos h] at hb8; exact absurd hb8 (by decide)
       exact ⟨⟨pulseNo p s.time, congrArg (fun z => Ending.returned (.tuple #[.int .i64 (pulseNo p s.time), .int .i64 z])) (if_neg hh).symm, (if_neg hh).symm⟩, hst⟩)
theorem most_any (b : Nat) (T : TypeId) (p : Par) (s : Stt) (A : Option Addr) (cap : Nat) (rest : List Value)  (w0 w : World) (F0 : List Nat) (L G : List Res) (hst : St w0 F0 w (frR b T p s A cap rest :: L) G)  :
    Calls Tryz.prog 135 #[.pointer (some ⟨b, 0, none⟩)] w fun e w' => e = .returned (.int .i64 (mostS p s)) ∧ St w0 F0 w' (frR b T p (s) A cap rest :: L) G := by
  refine W.func func135 rfl ntmps135 rfl<|W.sr rfl<|hst.y rfl (Y.assignI rfl)<|Ops.done rfl<|W.seq rfl<|W.drawn rfl (by kernel_rfl) (Ctx _ _ (_) (_)) [] (.op 0 0 (.op 1 0 (.op 2 0 (.op 3 0 (.op 4 0 (.op 5 0 (.op 6 0 (.op 7 0 (.op 8 0 (.op 9 0 (.op 10 0 (.op 11 0 (.op 12 0 (.op 13 0 (.op 14 0 (.op 15 1 (.op 16 1 (.op 17 1 (.op 18 0 .nil))))))))))))))))))) rfl (by kernel_rfl) hst.drew.ctx<|?_; replace hst := hst.drew; generalize World.drew _ = wd at hst ⊢; refine hst.z rfl (Y.moveP rfl)<|hst.z rfl (Y.nilCheck rfl)<|hst.z rfl (Y.fieldAddr fa60_1 rfl)<|hst.z rfl (Y.fieldAddr fa57_0 rfl)<|hst.z rfl (Y.fieldAddr fa53_1 rfl)<|hst.z rfl (Y.load 0 isAgg3 rfl rfl rfl)<|hst.z rfl (Y.moveP rfl)<|hst.z rfl (Y.nilCheck rfl)<|hst.z rfl (Y.fieldAddr fa60_0 rfl)<|hst.z rfl (Y.loadA 0 isAgg23 sizeOf23 rfl rfl rfl rfl)<|hst.z rfl (Y.moveP rfl)<|hst.z rfl (Y.nilCheck rfl)<|hst.z rfl (Y.fieldAddr fa60_1 rfl)<|hst.z rfl (Y.fieldAddr fa57_3 rfl)<|hst.z rfl (Y.load 0 isAgg3 rfl rfl rfl)<|Drw.ww rfl (X.ret cf132 (far_any p _ _ _ _ _ _ hst ) rfl fun w18 hst => ⟨hst.ctx, Drw.ww rfl (X.lits hst underlying24 sizeOf3 zeroValue3 (by rfl) (by rfl) (by rfl) [.int _ _, .int _ _] (by rfl) (by rfl) fun p19 w19 hst => ⟨(hst.cx 1), ?_⟩)⟩); refine Drw.ww rfl (X.ret cf27 (adds_any [s.hi, far p s.held] _ _ (by simp) _ _ _ _ _ hst (Rds.ofCells 0 rfl 2 2)) rfl fun w20 hst => ⟨(hst.cx 1), ?_⟩); refine Drw.q rfl (hst.cx 1) (Y.assignI rfl)<|Drw.done<|W.ret rfl<|⟨_, Rslt.one results135 rfl, ?_⟩; exact ⟨rfl, (hst.dr 1)⟩
theorem stamp_any (b : Nat) (T : TypeId) (p : Par) (s : Stt) (A : Option Addr) (cap : Nat) (rest : List Value)  (w0 w : World) (F0 : List Nat) (L G : List Res) (hst : St w0 F0 w (frR b T p s A cap rest :: L) G) (hn : s.sn ≤ 9223372036854775806) :
    Calls Tryz.prog 137 #[.pointer (some ⟨b, 0, none⟩)] w fun e w' => e = .returned (.tuple #[.agg #[.int .i64 (stampS s).st, .int .i64 (stampS s).sn], .int .i64 0]) ∧ St w0 F0 w' (frR b T p (stampS s) A cap rest :: L) G := by
  refine W.func func137 rfl ntmps137 rfl<|W.sr rfl<|Ops.ww rfl (X.allocA hst zeroValue55 fun p2 w2 hst => hst.y rfl (Y.assignI rfl)<|Ops.done rfl<|W.seq rfl<|W.sr rfl<|hst.y rfl (Y.moveP rfl)<|hst.y rfl (Y.isNil underlying50 rfl rfl)<|Ops.done rfl<|W.condF rfl rfl<|W.skip rfl<|W.seq rfl<|W.drawn rfl (by kernel_rfl) (Ctx _ _ (_) (_)) [17] (.op 0 0 (.op 1 0 (.op 2 0 (.op 3 0 (.op 4 0 (.op 5 0 (.op 6 0 (.op 7 0 (.op 8 0 (.op 9 0 (.op 10 0 (.op 11 0 (.op 12 1 (.op 13 0 (.op 14 0 (.op 15 0 (.op 16 0 (.op 17 1 .nil)))))))))))))))))) rfl (by kernel_rfl) hst.drew.ctx<|?_); replace hst := hst.drew; generalize World.drew _ = wd at hst ⊢; refine hst.z rfl (Y.moveP rfl)<|hst.z rfl (Y.moveP rfl)<|hst.z rfl (Y.nilCheck rfl)<|hst.z rfl (Y.fieldAddr fa60_1 rfl)<|hst.z rfl (Y.fieldAddr fa57_7 rfl)<|hst.z rfl (Y.loadA 1 isAgg55 sizeOf55 rfl rfl rfl rfl)<|hst.z rfl (bd244_0 rfl)<|hst.z rfl (Y.moveP rfl)<|hst.z rfl (Y.nilCheck rfl)<|hst.z rfl (Y.fieldAddr fa60_1 rfl)<|hst.z rfl (Y.fieldAddr fa57_1 rfl)<|hst.z rfl (Y.load 1 isAgg3 rfl rfl rfl)<|Drw.ww rfl (X.ret cf136 (tick_any _ _ _ _ _ _ _ _ hst hn) rfl fun w19 hst => ⟨hst.ctx, hst.z rfl (Y.field rfl fl244_0)<|hst.z rfl (Y.nilCheck rfl)<|hst.z rfl (Y.fieldAddr fa60_1 rfl)<|hst.z rfl (Y.fieldAddr fa57_7 rfl)<|Drw.z rfl rfl rfl rfl (X.storeS hst 1 sizeOf55 rfl rfl rfl rfl rfl (lZ rfl) rfl rfl fun w3_17 hst => Drw.done<|W.sr rfl<|hst.y rfl (Y.moveP rfl)<|hst.y rfl (Y.nilCheck rfl)<|hst.y rfl (Y.fieldAddr fa60_1 rfl)<|hst.y rfl (Y.fieldAddr fa57_7 rfl)<|hst.y rfl (Y.loadA 1 isAgg55 sizeOf55 rfl rfl rfl rfl)<|Ops.ww rfl (X.storeS hst 0 sizeOf55 rfl rfl rfl rfl rfl (lZ rfl) rfl rfl fun w4_5 hst => hst.y rfl (Y.assignI rfl)<|Ops.done rfl<|W.ret rfl<|⟨_, Rslt.cellTmp results137 rfl (res_at isAgg55 sizeOf55 0 hst rfl rfl) rfl, ?_⟩))⟩); exact ⟨rfl, (hst.dr 1)⟩
theorem listen_any (b : Nat) (T : TypeId) (p : Par) (s : Stt) (A : Option Addr) (cap : Nat) (rest : List Value) (x : Sta) (w0 w : World) (F0 : List Nat) (L G : List Res) (hst : St w0 F0 w (frR b T p s A cap rest :: L) G) (hn : s.sn ≤ 9223372036854775806) :
    Calls Tryz.prog 179 #[.pointer (some ⟨b, 0, none⟩), .agg #[.int .i64 x.t, .int .i64 x.n]] w fun e w' => e = .returned (.tuple #[]) ∧ St w0 F0 w' (frR b T p (hearS p s x) A cap rest :: L) G := by
  refine W.func func179 rfl ntmps179 rfl<|W.sr rfl<|Ops.ww rfl (X.boxA hst rfl fun p3 w3 hst => Ops.ds rfl rfl<|hst.y rfl (Y.moveP rfl)<|hst.y rfl (Y.notNil underlying50 rfl rfl)<|Ops.done rfl<|W.condT rfl rfl<|W.seq rfl<|W.drawn rfl (by kernel_rfl) (Ctx _ _ (_) (_)) [19, 20] (.op 0 0 (.op 1 0 (.op 2 0 (.op 3 0 (.op 4 0 (.op 5 0 (.op 6 0 (.op 7 0 (.op 8 0 (.op 9 0 (.op 10 0 (.op 11 0 (.op 12 0 (.alt 13 (.alt 14 (.op 15 0 (.op 16 0 (.op 17 2 (.op 18 1 (.op 19 1 (.op 20 1 .nil)))))) (.op 18 1 (.op 14 1 (.op 15 0 (.op 16 0 (.op 17 2 (.op 19 1 (.op 20 1 .nil)))))))) (.op 18 1 (.op 13 1 (.op 14 1 (.op 15 0 (.op 16 0 (.op 17 2 (.op 19 1 (.op 20 1 .nil)))))))))))))))))))))) rfl (by kernel_rfl) hst.drew.ctx<|?_); replace hst := hst.drew; generalize World.drew _ = wd at hst ⊢; refine hst.z rfl (Y.moveP rfl)<|hst.z rfl (Y.nilCheck rfl)<|hst.z rfl (Y.fieldAddr fa60_1 rfl)<|hst.z rfl (Y.fieldAddr fa57_7 rfl)<|hst.z rfl (Y.loadA 1 isAgg55 sizeOf55 rfl rfl rfl rfl)<|hst.z rfl (bd244_0 rfl)<|hst.z rfl (Y.moveP rfl)<|hst.z rfl (Y.nilCheck rfl)<|hst.z rfl (Y.fieldAddr fa60_1 rfl)<|hst.z rfl (Y.fieldAddr fa57_1 rfl)<|hst.z rfl (Y.load 1 isAgg3 rfl rfl rfl)<|hst.z rfl (Y.loadA 0 isAgg55 sizeOf55 rfl rfl rfl rfl)<|hst.z rfl (Y.moveP rfl)<|?_; refine Drw.alts (Alts.more ?_ (Alts.one ?_))
  · refine One.ww rfl (X.ret cf135 (dn1 (most_any b T p s A cap rest _ _ _ _ _ hst.up_1)) rfl fun w22 hst => ⟨hst.ctx, ?_⟩); refine Drw.alts (Alts.more ?_ (Alts.one ?_))
    · refine One.ww rfl (X.call cf186 rfl ?_); refine use_call (hear_any _ _ _ _ _ _ _ _ _ _ _ hst hn) rfl ?_; clear hst; rintro e w23 ⟨b23, rfl, hst⟩; refine ⟨_, rfl, ⟨hst.ctx, ?_⟩⟩; refine hst.z rfl (Y.moveU rfl)<|hst.z rfl (Y.extract rfl rfl)<|Drw.ya rfl rfl rfl hst.ctx (Y.extract rfl rfl)<|Drw.ww rfl (X.allocA hst zeroValue244 fun p4 w4 hst => ⟨(hst.cx 1), Drw.z rfl rfl rfl rfl (X.storeS hst 0 sizeOf244 rfl rfl rfl rfl rfl (lZ rfl) rfl rfl fun w2_19 hst => Drw.zy rfl rfl rfl rfl hst.ctx (Y.assignB rfl)<|Drw.done<|W.region rfl<|hst.y rfl (Y.moveP rfl)<|hst.y rfl (Y.fieldAddr fa244_0 rfl)<|hst.y rfl (Y.loadA 0 isAgg55 sizeOf55 rfl rfl rfl rfl)<|hst.y rfl (Y.nilCheck rfl)<|hst.y rfl (Y.fieldAddr fa60_1 rfl)<|hst.y rfl (Y.fieldAddr fa57_7 rfl)<|Ops.ww rfl (X.storeS hst 2 sizeOf55 rfl rfl rfl rfl rfl (lZ rfl) rfl rfl fun w3_6 hst => Ops.done rfl<|⟨_, Rslt.none results179, ?_⟩))⟩); exact ⟨rfl, (hst.dr 2)⟩
    · refine One.ww rfl (X.allocA hst zeroValue244 fun p4 w4 hst => ⟨(hst.cx 1), Drw.ww rfl (X.call cf186 rfl<|?_)⟩); refine use_call (hear_any _ _ _ _ _ _ _ _ _ _ _ hst hn) rfl ?_; clear hst; rintro e w23 ⟨b23, rfl, hst⟩; refine ⟨_, rfl, ⟨(hst.cx 1), ?_⟩⟩; refine Drw.q rfl (hst.cx 1) (Y.moveU rfl)<|Drw.q rfl (hst.cx 1) (Y.extract rfl rfl)<|Drw.ya rfl rfl rfl (hst.cx 1) (Y.extract rfl rfl)<|Drw.z rfl rfl rfl rfl (X.storeS hst 0 sizeOf244 rfl rfl rfl rfl rfl (lZ rfl) rfl rfl fun w2_19 hst => Drw.zy rfl rfl rfl rfl hst.ctx (Y.assignB rfl)<|Drw.done<|W.region rfl<|hst.y rfl (Y.moveP rfl)<|hst.y rfl (Y.fieldAddr fa244_0 rfl)<|hst.y rfl (Y.loadA 0 isAgg55 sizeOf55 rfl rfl rfl rfl)<|hst.y rfl (Y.nilCheck rfl)<|hst.y rfl (Y.fieldAddr fa60_1 rfl)<|hst.y rfl (Y.fieldAddr fa57_7 rfl)<|Ops.ww rfl (X.storeS hst 2 sizeOf55 rfl rfl rfl rfl rfl (lZ rfl) rfl rfl fun w3_6 hst => Ops.done rfl<|⟨_, Rslt.none results179, ?_⟩)); exact ⟨rfl, (hst.dr 2)⟩
  · refine One.ww rfl (X.allocA hst zeroValue244 fun p4 w4 hst => ⟨(hst.cx 1), Drw.ww rfl (X.ret cf135 (dn2 (most_any b T p s A cap rest _ _ _ _ _ hst.up_2)) rfl fun w22 hst => ⟨(hst.cx 1), Drw.ww rfl (X.call cf186 rfl<|?_)⟩)⟩); refine use_call (hear_any _ _ _ _ _ _ _ _ _ _ _ hst hn) rfl ?_; clear hst; rintro e w23 ⟨b23, rfl, hst⟩; refine ⟨_, rfl, ⟨(hst.cx 1), ?_⟩⟩; refine Drw.q rfl (hst.cx 1) (Y.moveU rfl)<|Drw.q rfl (hst.cx 1) (Y.extract rfl rfl)<|Drw.ya rfl rfl rfl (hst.cx 1) (Y.extract rfl rfl)<|Drw.z rfl rfl rfl rfl (X.storeS hst 0 sizeOf244 rfl rfl rfl rfl rfl (lZ rfl) rfl rfl fun w2_19 hst => Drw.zy rfl rfl rfl rfl hst.ctx (Y.assignB rfl)<|Drw.done<|W.region rfl<|hst.y rfl (Y.moveP rfl)<|hst.y rfl (Y.fieldAddr fa244_0 rfl)<|hst.y rfl (Y.loadA 0 isAgg55 sizeOf55 rfl rfl rfl rfl)<|hst.y rfl (Y.nilCheck rfl)<|hst.y rfl (Y.fieldAddr fa60_1 rfl)<|hst.y rfl (Y.fieldAddr fa57_7 rfl)<|Ops.ww rfl (X.storeS hst 2 sizeOf55 rfl rfl rfl rfl rfl (lZ rfl) rfl rfl fun w3_6 hst => Ops.done rfl<|⟨_, Rslt.none results179, ?_⟩)); exact ⟨rfl, (hst.dr 2)⟩
set_option maxHeartbeats 1000000 in
theorem step_any (b : Nat) (T : TypeId) (p : Par) (s : Stt) (A : Option Addr) (cap : Nat) (rest : List Value) (ticks : Int) (nx : Stt) (A2 : Option Addr) (cap2 : Nat) (w0 w : World) (F0 : List Nat) (L G : List Res) (hst : St w0 F0 w (frR b T p s A cap rest :: L) G) (hl : nx.tab.length ≤ 1000000) (hwf : ∀ x ∈ nx.tab, In64 x.1 ∧ In64 x.2) (hr : Rds [] G (.slice A2 nx.tab.length cap2) nx.tab.length (lcs nx.tab)) :
    Calls Tryz.prog 123 #[.pointer (some ⟨b, 0, none⟩), .int .i64 ticks, .agg #[.int .i64 nx.lo, .int .i64 nx.hi, .int .i64 nx.time, .bool nx.set, .int .i64 nx.held, .int .i64 nx.hops, .bool nx.good, .slice A2 nx.tab.length cap2, .int .i64 nx.st, .int .i64 nx.sn, .int .i64 nx.life]] w fun e w' => ∃ A' c', e = .returned (.tuple #[]) ∧ St w0 F0 w' (frR b T p (stepS p s ticks nx) A' c' rest :: L) (rowR (.slice A' (stepS p s ticks nx).tab.length c') 114 2 (stepS p s ticks nx).tab.length (lcs (stepS p s ticks nx).tab) :: G) := by
  refine W.func func123 rfl ntmps123 rfl<|W.sr rfl<|Ops.ww rfl (X.boxA hst rfl fun p5 w5 hst => Ops.done rfl<|W.seq rfl<|W.sr rfl<|hst.y rfl (Y.moveP rfl)<|hst.y rfl (Y.isNil underlying50 rfl rfl)<|Ops.done rfl<|W.condF rfl rfl<|W.skip rfl<|W.sr rfl<|hst.y rfl (Y.moveP rfl)<|hst.y rfl (Y.nilCheck rfl)<|hst.y rfl (Y.fieldAddr fa60_1 rfl)<|hst.y rfl (Y.loadA 1 isAgg57 sizeOf57 rfl rfl rfl rfl)<|Ops.ww rfl (X.allocA hst zeroValue57 fun p6 w6 hst => Ops.ww rfl (X.storeS hst 0 sizeOf57 rfl rfl rfl rfl rfl (lZ rfl) rfl rfl fun w2_5 hst => Ops.ds rfl rfl<|hst.y rfl (Y.fieldAddr fa57_0 rfl)<|hst.y rfl (Y.loadA 1 isAgg53 sizeOf53 rfl rfl rfl rfl)<|Ops.ww rfl (X.ret cf131 (mid_any _ _ _ _ _ _ _ hst ) rfl fun w21 hst => hst.y rfl (Y.assignI rfl)<|Ops.ds rfl rfl<|hst.y rfl (Y.moveI rfl)<|hst.y rfl (Y.fieldAddr fa57_1 rfl)<|hst.y rfl (Y.load 0 isAgg3 rfl rfl rfl)<|hst.y rfl (Y.moveI rfl)<|Ops.ww rfl (X.lits hst underlying24 sizeOf3 zeroValue3 (by rfl) (by rfl) (by rfl) [.int _ _, .int _ _] (by rfl) (by rfl) fun p26 w26 hst => ?_))))); refine Ops.ww rfl (X.ret cf27 (adds_any [s.time, ticks] _ _ (by simp) _ _ _ _ _ hst (Rds.ofCells 0 rfl 2 2)) rfl fun w27 hst => ?_); refine Ops.ww rfl (X.ret cf53 (sub_any _ _ _ _ _ _ _ hst ) rfl fun w28 hst => Ops.ww rfl (X.ret cf67 (mag_any _ _ _ _ _ _ hst ) rfl fun w29 hst => hst.y rfl (Y.assignI rfl)<|Ops.done rfl<|W.seq rfl<|?_)); refine W.cut [(0, .pointer _), (1, .int _ _), (5, .pointer _), (6, .pointer _), (7, .int _ _)] (fun _ : Unit => [(9, .bool (decide (jumpS p s ticks nx)))]) (fun _ w => St w0 F0 w (cellsR p6 (sttC s A cap) 57 :: cellsR p5 (sttC nx A2 cap2) 57 :: frR b T p s A cap rest :: L) G) ⟨rfl, rfl, rfl, rfl, rfl, trivial⟩ ?_ ?_
  rotate_left
  · clear hst; rintro _ j w5 hst; refine W.seq rfl ?_; refine W.cut [(0, .pointer _), (5, .pointer _), (6, .pointer _)] (fun x : Nat => [(10, .pointer (some ⟨x, 0, none⟩))]) (fun x w => St w0 F0 w (cellsR x [.int .i64 (slewS p s ticks nx), .bool true] 241 :: cellsR p6 (sttC s A cap) 57 :: cellsR p5 (sttC nx A2 cap2) 57 :: frR b T p s A cap rest :: L) G) ⟨rfl, rfl, rfl, trivial⟩ ?_ ?_
    rotate_left
    · clear hst; rintro p10 j w6 hst; refine W.seq rfl<|W.drawn rfl (by kernel_rfl) (Ctx _ _ (_) (_)) [9] (.op 0 0 (.op 1 0 (.op 2 0 (.op 3 0 (.op 4 0 (.op 5 0 (.op 6 1 (.op 7 0 (.op 8 0 (.op 9 1 .nil)))))))))) rfl (by kernel_rfl) hst.drew.ctx<|?_; replace hst := hst.drew; generalize World.drew _ = wd at hst ⊢; refine hst.z rfl (Y.moveP rfl)<|hst.z rfl (Y.moveP rfl)<|hst.z rfl (Y.nilCheck rfl)<|hst.z rfl (Y.fieldAddr fa60_0 rfl)<|hst.z rfl (Y.loadA 3 isAgg23 sizeOf23 rfl rfl rfl rfl)<|hst.z rfl (Y.loadA 2 isAgg57 sizeOf57 rfl rfl rfl rfl)<|Drw.ww rfl (X.call cf12 rfl<|?_); refine use_call (sane_any p nx _ _ hl hwf _ _ _ _ _ hst hr) rfl ?_; clear hst; rintro e w67 ⟨A67, c67, rfl, hst⟩; refine ⟨_, rfl, ⟨(hst.cxg 0 1), ?_⟩⟩; refine Drw.q rfl (hst.cxg 0 1) (Y.nilCheck rfl)<|Drw.q rfl (hst.cxg 0 1) (Y.fieldAddr fa60_1 rfl)<|Drw.z rfl rfl rfl rfl (X.storeS hst 3 sizeOf57 rfl rfl rfl rfl rfl (lZ rfl) rfl rfl fun w7_9 hst => Drw.done<|W.seq rfl<|?_); replace hst := hst.up_3; refine hst.dw 1 [] (T0 [0,1,2,3,4,5,6,7,8,9,10,11] (.op 12 1 (T0 [13,14,15] (.op 16 1 (T0 [17,18,19] (.op 20 1 (T0 [21,22,23] (.op 24 1 (T0 [25,26,27] (.op 28 1 .nil)))))))))) rfl (by kernel_rfl) rfl (by kernel_rfl) fun wd hst => ?_; refine Drw.q rfl (hst.cx 1) (Y.moveP rfl)<|Drw.q rfl (hst.cx 1) (Y.moveP rfl)<|Drw.q rfl (hst.cx 1) (Y.moveP rfl)<|Drw.q rfl (hst.cx 1) (Y.moveP rfl)<|Drw.q rfl (hst.cx 1) (Y.fieldAddr fa241_0 rfl)<|Drw.q rfl (hst.cx 1) (Y.load 0 isAgg3 rfl rfl rfl)<|Drw.q rfl (hst.cx 1) (Y.fieldAddr fa241_1 rfl)<|Drw.q rfl (hst.cx 1) (Y.load 0 isAgg4 rfl rfl rfl)<|Drw.q rfl (hst.cx 1) (Y.fieldAddr fa57_7 rfl)<|Drw.q rfl (hst.cx 1) (Y.loadA 1 isAgg55 sizeOf55 rfl rfl rfl rfl)<|Drw.q rfl (hst.cx 1) (Y.fieldAddr fa57_8 rfl)<|Drw.q rfl (hst.cx 1) (Y.load 1 isAgg3 rfl rfl rfl)<|Drw.ww rfl (X.ret cf39 (bound_any _ _ _ _ _ _ _ _ hst ) rfl fun w82 hst => ⟨(hst.cx 1), Drw.q rfl (hst.cx 1) (Y.nilCheck rfl)<|Drw.q rfl (hst.cx 1) (Y.fieldAddr fa60_1 rfl)<|Drw.q rfl (hst.cx 1) (Y.fieldAddr fa57_1 rfl)<|Drw.ww rfl (X.storeV hst 0 (.int _ _) sizeOf3 rfl rfl rfl rfl (lZ rfl) rfl rfl fun w8_16 hst => ⟨(hst.cx 1), Drw.q rfl (hst.cx 1) (Y.nilCheck rfl)<|Drw.q rfl (hst.cx 1) (Y.fieldAddr fa60_1 rfl)<|Drw.q rfl (hst.cx 1) (Y.fieldAddr fa57_2 rfl)<|Drw.ww rfl (X.storeV hst 0 (.bool _) sizeOf4 rfl rfl rfl rfl (lZ rfl) rfl rfl fun w8_20 hst => ⟨(hst.cx 1), Drw.q rfl (hst.cx 1) (Y.nilCheck rfl)<|Drw.q rfl (hst.cx 1) (Y.fieldAddr fa60_1 rfl)<|Drw.q rfl (hst.cx 1) (Y.fieldAddr fa57_7 rfl)<|Drw.ww rfl (X.storeS hst 0 sizeOf55 rfl rfl rfl rfl rfl (lZ rfl) rfl rfl fun w8_24 hst => ⟨(hst.cx 1), Drw.q rfl (hst.cx 1) (Y.nilCheck rfl)<|Drw.q rfl (hst.cx 1) (Y.fieldAddr fa60_1 rfl)<|Drw.q rfl (hst.cx 1) (Y.fieldAddr fa57_8 rfl)<|Drw.ww rfl (X.storeV hst 0 (.int _ _) sizeOf3 rfl rfl rfl rfl (lZ rfl) rfl rfl fun w8_28 hst => ⟨(hst.cx 1), Drw.done<|W.seq rfl<|?_⟩)⟩)⟩)⟩)⟩); refine W.cut [(0, .pointer _), (6, .pointer _), (10, .pointer _)] (fun x : Nat × Bool => [(11, .pointer (some ⟨x.1, 0, none⟩)), (12, .bool x.2)]) (fun x w => x.2 = decide (s.sta.mended (mostS p (midS p s ticks nx))) ∧ St w0 F0 w (cellsR x.1 [.int .i64 (s.sta.mend (slewS p s ticks nx) (mostS p (midS p s ticks nx))).t, .int .i64 (s.sta.mend (slewS p s ticks nx) (mostS p (midS p s ticks nx))).n] 244 :: frR b T p (midS p s ticks nx) A67 c67 rest :: cellsR p10 [.int .i64 (slewS p s ticks nx), .bool true] 241 :: cellsR p6 (sttC s A cap) 57 :: cellsR p5 (sttC nx A2 cap2) 57 :: L) (rowR (.slice A67 (sane p nx).tab.length c67) 114 2 (sane p nx).tab.length (lcs (sane p nx).tab) :: G)) ⟨rfl, rfl, rfl, trivial⟩ ?_ ?_
      rotate_left
      · clear hst; rintro ⟨p11, b12⟩ j w9 ⟨hb12, hst⟩; refine W.sr rfl<|hst.y rfl (Y.moveP rfl)<|hst.y rfl (Y.loadA 0 isAgg244 sizeOf244 rfl rfl rfl rfl)<|hst.y rfl (Y.fieldAddr fa241_0 rfl)<|hst.y rfl (Y.load 2 isAgg3 rfl rfl rfl)<|Ops.ww rfl (X.ret cf136 (tick_any _ _ _ _ _ _ _ _ hst (mend_n _ _ _)) rfl fun w110 hst => hst.y rfl (Y.field rfl fl244_0)<|hst.y rfl (Y.nilCheck rfl)<|hst.y rfl (Y.fieldAddr fa60_1 rfl)<|hst.y rfl (Y.fieldAddr fa57_7 rfl)<|Ops.ww rfl (X.storeS hst 1 sizeOf55 rfl rfl rfl rfl rfl (lZ rfl) rfl rfl fun w10_9 hst => Ops.ds rfl rfl<|hst.y rfl (Y.moveB rfl)<|hst.y rfl (Y.moveB rfl)<|?_)); cases b12
        · replace hb12 := dF hb12; refine hst.y rfl (Y.fieldAddr fa241_0 rfl)<|hst.y rfl (Y.load 2 isAgg3 rfl rfl rfl)<|hst.y rfl (Y.fieldAddr fa57_1 rfl)<|hst.y rfl (Y.load 3 isAgg3 rfl rfl rfl)<|hst.yb rfl (Y.lss rfl rfl) (fun b121 hb121 => hst.y rfl (Y.pB rfl rfl)<|Ops.done rfl<|?_); cases b121
          · replace hb121 := dF hb121; refine W.condF rfl rfl<|W.skip rfl<|⟨_, Rslt.none results123, ?_⟩; have hq : stepS p s ticks nx = beatS p s ticks nx := if_neg (fun h => h.elim hb12 hb121); rw [stepS_tab]; refine ⟨A67, c67, rfl, ?_⟩; rw [hq]; exact (hst.sub (.cons _ (.cons_cons _ (.cons _ (.cons _ (.cons _ (.refl _)))))))
          · replace hb121 := dT hb121; refine W.condT rfl rfl<|W.region rfl<|hst.y rfl (Y.moveP rfl)<|hst.y rfl (Y.moveP rfl)<|hst.y rfl (Y.nilCheck rfl)<|hst.y rfl (Y.fieldAddr fa60_1 rfl)<|hst.y rfl (Y.fieldAddr fa57_8 rfl)<|hst.y rfl (Y.load 1 isAgg3 rfl rfl rfl)<|Ops.ww rfl (X.lits hst underlying24 sizeOf3 zeroValue3 (by rfl) (by rfl) (by rfl) [.int _ _, .int _ _] (by rfl) (by rfl) fun p129 w129 hst => ?_); refine Ops.ww rfl (X.ret cf27 (adds_any [bound s.life 0 2305843009213693952, 1] _ _ (by simp) _ _ _ _ _ hst (Rds.ofCells 0 rfl 2 2)) rfl fun w130 hst => ?_); refine Ops.ww rfl (X.ret cf39 (bound_any _ _ _ _ _ _ _ _ hst ) rfl fun w131 hst => hst.y rfl (Y.nilCheck rfl)<|hst.y rfl (Y.fieldAddr fa60_1 rfl)<|hst.y rfl (Y.fieldAddr fa57_8 rfl)<|Ops.ww rfl (X.storeV hst 2 (.int _ _) sizeOf3 rfl rfl rfl rfl (lZ rfl) rfl rfl fun w12_12 hst => Ops.done rfl<|⟨_, Rslt.none results123, ?_⟩)); have hq : stepS p s ticks nx = { beatS p s ticks nx with life := bound (adds [bound s.life 0 2305843009213693952, 1]) 0 2305843009213693952 } := if_pos (Or.inr hb121); rw [stepS_tab]; refine ⟨A67, c67, rfl, ?_⟩; rw [hq]; exact (hst.sub (.cons _ (.cons _ (.cons_cons _ (.cons _ (.cons _ (.cons _ (.refl _))))))))
        · replace hb12 := dT hb12; refine Ops.nn rfl<|Ops.nn rfl<|Ops.nn rfl<|Ops.nn rfl<|Ops.nn rfl<|hst.y rfl (Y.pB rfl rfl)<|Ops.done rfl<|W.condT rfl rfl<|W.region rfl<|hst.y rfl (Y.moveP rfl)<|hst.y rfl (Y.moveP rfl)<|hst.y rfl (Y.nilCheck rfl)<|hst.y rfl (Y.fieldAddr fa60_1 rfl)<|hst.y rfl (Y.fieldAddr fa57_8 rfl)<|hst.y rfl (Y.load 1 isAgg3 rfl rfl rfl)<|Ops.ww rfl (X.lits hst underlying24 sizeOf3 zeroValue3 (by rfl) (by rfl) (by rfl) [.int _ _, .int _ _] (by rfl) (by rfl) fun p129 w129 hst => ?_); refine Ops.ww rfl (X.ret cf27 (adds_any [bound s.life 0 2305843009213693952, 1] _ _ (by simp) _ _ _ _ _ hst (Rds.ofCells 0 rfl 2 2)) rfl fun w130 hst => ?_); refine Ops.ww rfl (X.ret cf39 (bound_any _ _ _ _ _ _ _ _ hst ) rfl fun w131 hst => hst.y rfl (Y.nilCheck rfl)<|hst.y rfl (Y.fieldAddr fa60_1 rfl)<|hst.y rfl (Y.fieldAddr fa57_8 rfl)<|Ops.ww rfl (X.storeV hst 2 (.int _ _) sizeOf3 rfl rfl rfl rfl (lZ rfl) rfl rfl fun w12_12 hst => Ops.done rfl<|⟨_, Rslt.none results123, ?_⟩)); have hq : stepS p s ticks nx = { beatS p s ticks nx with life := bound (adds [bound s.life 0 2305843009213693952, 1]) 0 2305843009213693952 } := if_pos (Or.inl hb12); rw [stepS_tab]; refine ⟨A67, c67, rfl, ?_⟩; rw [hq]; exact (hst.sub (.cons _ (.cons _ (.cons_cons _ (.cons _ (.cons _ (.cons _ (.refl _))))))))
      refine hst.dv [12,13] (T0 [0,1,2,3,4,5] (.alt 6 (.alt 7 (T0 [8,9] (.op 10 2 (T1 [11,12,13] .nil))) (T1 [11,7] (T0 [8,9] (.op 10 2 (T1 [12,13] .nil))))) (T1 [11,6,7] (T0 [8,9] (.op 10 2 (T1 [12,13] .nil)))))) rfl (by kernel_rfl) rfl (by kernel_rfl) fun wd hst => ?_; refine hst.z rfl (Y.fieldAddr fa57_7 rfl)<|hst.z rfl (Y.loadA 2 isAgg55 sizeOf55 rfl rfl rfl rfl)<|hst.z rfl (bd244_0 rfl)<|hst.z rfl (Y.fieldAddr fa241_0 rfl)<|hst.z rfl (Y.load 1 isAgg3 rfl rfl rfl)<|hst.z rfl (Y.moveP rfl)<|?_; refine Drw.alts (Alts.more ?_ (Alts.one ?_))
      · refine One.ww rfl (X.ret cf135 (most_any b T p (midS p s ticks nx) A67 c67 rest _ _ _ _ _ hst) rfl fun w102 hst => ⟨hst.ctx, ?_⟩); refine Drw.alts (Alts.more ?_ (Alts.one ?_))
        · refine One.ww rfl (X.call cf134 rfl ?_); refine use_call (mend_any _ _ _ _ _ _ _ _ _ hst) rfl ?_; clear hst; rintro e w103 ⟨b103, rfl, hb103, hst⟩; refine ⟨_, rfl, ⟨hst.ctx, ?_⟩⟩; refine hst.z rfl (Y.moveU rfl)<|hst.z rfl (Y.extract rfl rfl)<|Drw.ya rfl rfl rfl hst.ctx (Y.extract rfl rfl)<|Drw.ww rfl (X.allocA hst zeroValue244 fun p11 w11 hst => ⟨(hst.cx 1), Drw.z rfl rfl rfl rfl (X.storeS hst 0 sizeOf244 rfl rfl rfl rfl rfl (lZ rfl) rfl rfl fun w9_12 hst => Drw.zy rfl rfl rfl rfl hst.ctx (Y.assignB rfl)<|Drw.done<|?_)⟩); exact ⟨(_, b103), ⟨rfl, rfl, trivial⟩, ⟨rfl, rfl, rfl, trivial⟩, hb103, hst⟩
        · refine One.ww rfl (X.allocA hst zeroValue244 fun p11 w11 hst => ⟨(hst.cx 1), Drw.ww rfl (X.call cf134 rfl<|?_)⟩); refine use_call (mend_any _ _ _ _ _ _ _ _ _ hst) rfl ?_; clear hst; rintro e w103 ⟨b103, rfl, hb103, hst⟩; refine ⟨_, rfl, ⟨(hst.cx 1), ?_⟩⟩; refine Drw.q rfl (hst.cx 1) (Y.moveU rfl)<|Drw.q rfl (hst.cx 1) (Y.extract rfl rfl)<|Drw.ya rfl rfl rfl (hst.cx 1) (Y.extract rfl rfl)<|Drw.z rfl rfl rfl rfl (X.storeS hst 0 sizeOf244 rfl rfl rfl rfl rfl (lZ rfl) rfl rfl fun w9_12 hst => Drw.zy rfl rfl rfl rfl hst.ctx (Y.assignB rfl)<|Drw.done<|?_); exact ⟨(_, b103), ⟨rfl, rfl, trivial⟩, ⟨rfl, rfl, rfl, trivial⟩, hb103, hst⟩
      · refine One.ww rfl (X.allocA hst zeroValue244 fun p11 w11 hst => ⟨(hst.cx 1), Drw.ww rfl (X.ret cf135 (dn1 (most_any b T p (midS p s ticks nx) A67 c67 rest _ _ _ _ _ hst.up_1)) rfl fun w102 hst => ⟨(hst.cx 1), Drw.ww rfl (X.call cf134 rfl<|?_)⟩)⟩); refine use_call (mend_any _ _ _ _ _ _ _ _ _ hst) rfl ?_; clear hst; rintro e w103 ⟨b103, rfl, hb103, hst⟩; refine ⟨_, rfl, ⟨(hst.cx 1), ?_⟩⟩; refine Drw.q rfl (hst.cx 1) (Y.moveU rfl)<|Drw.q rfl (hst.cx 1) (Y.extract rfl rfl)<|Drw.ya rfl rfl rfl (hst.cx 1) (Y.extract rfl rfl)<|Drw.z rfl rfl rfl rfl (X.storeS hst 0 sizeOf244 rfl rfl rfl rfl rfl (lZ rfl) rfl rfl fun w9_12 hst => Drw.zy rfl rfl rfl rfl hst.ctx (Y.assignB rfl)<|Drw.done<|?_); exact ⟨(_, b103), ⟨rfl, rfl, trivial⟩, ⟨rfl, rfl, rfl, trivial⟩, hb103, hst⟩
    refine hst.dv [14] (T0 [0,1,2,3,4,5,6,7,8,9,10,11] (.alt 12 (T1 [13,14] .nil) (T1 [13,12,14] .nil))) rfl (by kernel_rfl) rfl (by kernel_rfl) fun wd hst => ?_; refine hst.z rfl (Y.fieldAddr fa57_1 rfl)<|hst.z rfl (Y.load 0 isAgg3 rfl rfl rfl)<|hst.z rfl (Y.fieldAddr fa57_2 rfl)<|hst.z rfl (Y.load 0 isAgg4 rfl rfl rfl)<|hst.z rfl (bd241_0_1 rfl)<|hst.z rfl (Y.moveP rfl)<|hst.z rfl (Y.nilCheck rfl)<|hst.z rfl (Y.fieldAddr fa60_0 rfl)<|hst.z rfl (Y.loadA 2 isAgg23 sizeOf23 rfl rfl rfl rfl)<|hst.z rfl (Y.moveI rfl)<|hst.z rfl (Y.moveI rfl)<|hst.z rfl (Y.moveB rfl)<|?_; refine Drw.alts (Alts.more ?_ (Alts.one ?_))
    · refine One.ww rfl (X.ret cf133 (slew_any _ _ p _ _ _ _ _ _ _ _ hst ) rfl fun w60 hst => ⟨hst.ctx, Drw.ww rfl (X.allocA hst zeroValue241 fun p10 w10 hst => ⟨(hst.cx 1), Drw.z rfl rfl rfl rfl (X.storeS hst 0 sizeOf241 rfl rfl rfl rfl rfl (lZ rfl) rfl rfl fun w6_14 hst => Drw.done<|?_)⟩)⟩); exact ⟨_, ⟨rfl, trivial⟩, ⟨rfl, rfl, rfl, trivial⟩, hst⟩
    · refine One.ww rfl (X.allocA hst zeroValue241 fun p10 w10 hst => ⟨(hst.cx 1), Drw.ww rfl (X.ret cf133 (slew_any _ _ p _ _ _ _ _ _ _ _ hst ) rfl fun w60 hst => ⟨(hst.cx 1), Drw.z rfl rfl rfl rfl (X.storeS hst 0 sizeOf241 rfl rfl rfl rfl rfl (lZ rfl) rfl rfl fun w6_14 hst => Drw.done<|?_)⟩)⟩); exact ⟨_, ⟨rfl, trivial⟩, ⟨rfl, rfl, rfl, trivial⟩, hst⟩
  refine hst.dv [] (T0 [0,1,2,3,4] (.op 5 1 (T0 [6,7,8,9,10,11,12,13,14] (.op 15 1 (T0 [16,17,18] .nil))))) rfl (by kernel_rfl) rfl (by kernel_rfl) fun wd hst => ?_; refine hst.z rfl (Y.moveP rfl)<|hst.z rfl (Y.nilCheck rfl)<|hst.z rfl (Y.fieldAddr fa60_0 rfl)<|hst.z rfl (Y.loadA 3 isAgg23 sizeOf23 rfl rfl rfl rfl)<|hst.z rfl (Y.loadA 1 isAgg57 sizeOf57 rfl rfl rfl rfl)<|Drw.ww rfl (X.ret cf50 (of_health p s _ _ _ _ _ _ _ hst ) rfl fun w35 hst => ⟨hst.ctx, Drw.yb rfl rfl rfl hst.ctx (Y.eql rfl rfl) (fun b36 hb36 => hst.z rfl (Y.moveB rfl)<|?_)⟩); cases b36
  · replace hb36 := dF hb36; refine hst.z rfl (Y.moveI rfl)<|hst.z rfl (Y.moveP rfl)<|hst.z rfl (Y.nilCheck rfl)<|hst.z rfl (Y.fieldAddr fa60_0 rfl)<|hst.z rfl (Y.loadA 3 isAgg23 sizeOf23 rfl rfl rfl rfl)<|hst.z rfl (Y.fieldAddr fa57_3 rfl)<|hst.z rfl (Y.load 2 isAgg3 rfl rfl rfl)<|Drw.ww rfl (X.ret cf132 (far_any p _ _ _ _ _ _ hst ) rfl fun w45 hst => ⟨hst.ctx, Drw.yb rfl rfl rfl hst.ctx (Y.gtr rfl rfl) (fun b46 hb46 => hst.z rfl (Y.pB rfl rfl)<|hst.z rfl (Y.assignB rfl)<|Drw.done<|?_)⟩); exact ⟨(), ⟨congrArg Value.bool (hb46.trans (decide_eq_decide.2 ⟨Or.inr, fun h => h.resolve_left hb36⟩)), trivial⟩, ⟨rfl, rfl, rfl, rfl, rfl, trivial⟩, (hst.dr 1)⟩
  · replace hb36 := dT hb36; refine Drw.no rfl rfl rfl hst.ctx<|Drw.no rfl rfl rfl hst.ctx<|Drw.no rfl rfl rfl hst.ctx<|Drw.no rfl rfl rfl hst.ctx<|Drw.no rfl rfl rfl hst.ctx<|Drw.no rfl rfl rfl hst.ctx<|Drw.no rfl rfl rfl hst.ctx<|Drw.noX rfl rfl rfl hst.ctx<|Drw.no rfl rfl rfl hst.ctx<|hst.z rfl (Y.pB rfl rfl)<|hst.z rfl (Y.assignB rfl)<|Drw.done<|?_; exact ⟨(), ⟨congrArg Value.bool (decide_eq_true (Or.inl hb36)).symm, trivial⟩, ⟨rfl, rfl, rfl, rfl, rfl, trivial⟩, (hst.dr 1)⟩
end Go.Proofs.YtaanjifekgfemaaGreat.Cl
end
section
namespace Go.Proofs.YtaanjifekgfemaaGreat.J
open Tryz
open Go.RowKit Go.Shelf Go.Sort
attribute [local go_sem] Oper.semAt_some
def upto {α : Type} (f : Nat → α) (k : Nat) : List α := (List.range k).map f
theorem upto_succ {α : Type} (f : Nat → α) (k : Nat) : upto f (k + 1) = upto f k ++ [f k] := by simp [upto, List.range_succ]
theorem upto_length {α : Type} (f : Nat → α) (k : Nat) : (upto f k).length = k := by simp [upto]
theorem upto_all (zs : List Int) : upto (fun j => zs[j]?.getD 0) zs.length = zs := by
  apply List.ext_getElem
  · simp [upto]
  · intro i h1 h2; simp [upto, h2]
theorem upto_take (zs : List Int) {k : Nat} (hk : k ≤ zs.length) : upto (fun j => zs[j]?.getD 0) k = zs.take k := by
  apply List.ext_getElem
  · simp [upto, hk]
  · intro i h1 h2; have : i < zs.length := by simp [upto] at h1; omega
    simp [upto, this]
set_option maxRecDepth 100000 in
set_option maxHeartbeats 2000000 in
theorem values1_in (F : Fence) (n : Nat) (h7 : F.fn 151) (hro : F.round = none) (hn : 1 ≤ n) (l Bs n₀ b off len cap : Nat) (zs : List Int) (hreach : len * 8 ≤ 140737488351232) (hb : b < n₀) (J Jx : List Int → World → Prop)
    (hY : ∀ pre x W, J pre W → pre.length < len → YieldAt F (n - 1) Tryz.prog l #[.int .i64 x] W fun e W' =>
      (e = .returned (.bool true) ∧ J (pre ++ [x]) W' ∧ Below n₀ W W') ∨ (e = .returned (.bool false) ∧ Jx (pre ++ [x]) W'))
    (W : World) (hBs : W.cell? ⟨Bs, 0, none⟩ = some (.slice (some ⟨b, off, none⟩) len cap)) (hc : ∀ j, j < len → W.cell? ⟨b, off + j, none⟩ = some (.int .i64 (zs[j]?.getD 0))) (h0 : J [] W) :
    CallsIn F n Tryz.prog 151 #[.func (.yield l) #[] #[], .pointer (some ⟨Bs, 0, none⟩)] W fun e W' => (∃ v, e = .returned v) ∧
      ((∃ ys, ys = upto (fun j => zs[j]?.getD 0) len ∧ J ys W') ∨ (∃ pre, (∃ k, k ≤ len ∧ pre = upto (fun j => zs[j]?.getD 0) k) ∧ Jx pre W')) := by
  refine callsIn_of_wp func151 rfl h7 ?_ hro; simp only [ntmps151, List.size_toArray, List.length_cons, List.length_nil, Nat.reduceAdd, Nat.reduceSub, Array.replicate_succ, Array.replicate_zero, List.push_toArray, List.append_toArray, List.nil_append, List.cons_append]
  gi_wp2
  gi_loopw [7] (fun i wr => ∃ k : Nat, k ≤ len ∧ i = .int .i64 k ∧ J (upto (fun j => zs[j]?.getD 0) k) wr ∧ Below n₀ W wr)
    (fun i _ => len - (intOf i).toNat)
  case atStart => exact ⟨0, Nat.zero_le _, rfl, h0, Below.refl _ _⟩
  case round =>
    obtain ⟨k, hk, rfl, hJs, hnx⟩ := hrel; have hcx : k < len → wr.cell? ⟨b, off + k, none⟩ = some (.int .i64 (zs[k]?.getD 0)) := fun h => (hnx.cell (p := ⟨b, off + k, none⟩) hb).trans (hc k h)
    by_cases hlt : k < len
    · obtain ⟨fn, tmps, assign, body, hy, hR⟩ := hY _ (zs[k]?.getD 0) wr hJs (by rw [upto_length]; exact hlt); have hcx' := hcx hlt
      gi_wp2
      refine hR.mono ?_; rintro e W3 (⟨rfl, hJ3, hk3⟩ | ⟨rfl, hJx3⟩)
      · gi_wp2
        go_roundw
        case rel => exact ⟨k + 1, by omega, by simp, by rw [upto_succ]; exact hJ3, hnx.trans hk3⟩
        case measure => simp [intOf]; omega
      · gi_wp2
        refine bodyPost_ret (results_none rfl _ _ _) rfl ?_; exact ⟨⟨_, rfl⟩, .inr ⟨_, ⟨k + 1, by omega, (upto_succ _ _).symm⟩, hJx3⟩⟩
    · obtain rfl : k = len := by omega
      gi_wp2
      go_end0
      exact ⟨⟨_, rfl⟩, .inl ⟨_, rfl, hJs⟩⟩
def Ints (n₀ : Nat) (W : World) (sv : Value) (zs : List Int) : Prop :=
  (sv = .slice none 0 0 ∧ zs = []) ∨ ∃ b off cap, sv = .slice (some ⟨b, off, none⟩) zs.length cap ∧ b < n₀ ∧ ∀ j, j < zs.length → W.cell? ⟨b, off + j, none⟩ = some (.int .i64 (zs[j]?.getD 0))
theorem Ints.below {n₀ : Nat} {A B : World} (h : Below n₀ A B) {sv : Value} {zs : List Int} : Ints n₀ A sv zs → Ints n₀ B sv zs
  | .inl e => .inl e
  | .inr ⟨b, off, cap, e, hb, hc⟩ => .inr ⟨b, off, cap, e, hb, fun j hj => (h.cell (p := ⟨b, off + j, none⟩) hb).trans (hc j hj)⟩
set_option maxRecDepth 100000 in
set_option maxHeartbeats 1000000 in
theorem values1_nil_in (F : Fence) (n : Nat) (h7 : F.fn 151) (hro : F.round = none) (l Bs : Nat) (J : List Int → World → Prop) (W : World) (hBs : W.cell? ⟨Bs, 0, none⟩ = some (.slice none 0 0)) (h0 : J [] W) :
    CallsIn F n Tryz.prog 151 #[.func (.yield l) #[] #[], .pointer (some ⟨Bs, 0, none⟩)] W fun e W' => (∃ v, e = .returned v) ∧ J [] W' := by
  refine callsIn_of_wp func151 rfl h7 ?_ hro; simp only [ntmps151, List.size_toArray, List.length_cons, List.length_nil, Nat.reduceAdd, Nat.reduceSub, Array.replicate_succ, Array.replicate_zero, List.push_toArray, List.append_toArray, List.nil_append, List.cons_append]
  gi_wp2
  gi_loopw [7] (fun i wr => i = .int .i64 0 ∧ J [] wr) (fun _ _ => 0)
  case atStart => exact ⟨rfl, h0⟩
  case round =>
    obtain ⟨rfl, hJs⟩ := hrel
    gi_wp2
    go_end0
    exact ⟨⟨_, rfl⟩, hJs⟩
theorem values_stops (F : Fence) (n : Nat) (h7 : F.fn 151) (hro : F.round = none) (hn : 1 ≤ n) (Bs n₀ : Nat) (sv : Value) (zs : List Int) (hreach : zs.length * 8 ≤ 140737488351232) (w : World) (hBs : Bs < w.heap.size) (hn₀ : n₀ ≤ w.heap.size)
    (hc : w.cell? ⟨Bs, 0, none⟩ = some sv) (hI : Ints n₀ w sv zs) :
    SeqStopsK F n Tryz.prog 151 #[.pointer (some ⟨Bs, 0, none⟩)] (fun x : Int => #[Value.int .i64 x]) (Below n₀) (fun ys => ys = zs) (fun pre => pre <+: zs) zs.length w := fun l J Jx W hW _ _ hY h0 => by
  have hc' := (hW.cell (p := ⟨Bs, 0, none⟩) hBs).trans hc; rcases hI.below (hW.mono hn₀) with ⟨rfl, rfl⟩ | ⟨b, off, cap, rfl, hb, hcs⟩
  · exact (values1_nil_in F n h7 hro l Bs J W hc' h0).mono fun e W' ⟨he, hj⟩ => ⟨he, .inl ⟨_, rfl, hj⟩⟩
  · refine (values1_in F n h7 hro hn l Bs n₀ b off zs.length cap zs hreach hb J Jx hY W hc' hcs h0).mono ?_; rintro e W' ⟨he, ⟨ys, rfl, hj⟩ | ⟨pre, ⟨k, hk, rfl⟩, hj⟩⟩
    · exact ⟨he, .inl ⟨_, upto_all zs, hj⟩⟩
    · exact ⟨he, .inr ⟨_, by rw [upto_take zs hk]; exact List.take_prefix _ _, hj⟩⟩
theorem infoInt : (Tryz.prog.info? 3).map (fun i => (i.zero, i.size, i.bytes)) = some (some (.int .i64 0), 1, 8) := by kernel_rfl
set_option maxRecDepth 100000 in
set_option maxHeartbeats 2000000 in
theorem appendSeq_in (F : Fence) (n : Nat) (h3 : F.fn 153) (h5 : F.fn 151) (hro : F.round = none) (hn : 3 ≤ n) (Bs : Nat) (sv : Value) (zs : List Int) (hlen : zs.length ≤ maxLen) (hbytes : zs.length * 8 ≤ 140737488351232) (w : World) (hBs : Bs < w.heap.size) (hcB : w.cell? ⟨Bs, 0, none⟩ = some sv) (hI : Ints w.heap.size w sv zs) :
    CallsIn F n Tryz.prog 153 #[.slice none 0 0, .func (.func 151) #[] #[.pointer (some ⟨Bs, 0, none⟩)]] w fun e W' => ∃ v, e = .returned v ∧ W'.ownsRow w.heap.size 3 1 v zs.length (zs.map (Value.int .i64)) ∧ (v = .slice none 0 0 ↔ zs = []) ∧ Below w.heap.size w W' := by
  have h1 : 1 ≤ n := by omega
  obtain ⟨i0, hi, hz0, hz1, hz2⟩ := info_parts infoInt; refine callsIn_of_wp_marks func153 rfl h3 ?_ hro; simp only [ntmps153, List.size_toArray, List.length_cons, List.length_nil, Nat.reduceAdd, Nat.reduceSub, Array.replicate_succ, Array.replicate_zero, List.push_toArray, List.append_toArray, List.nil_append, List.cons_append]
  gi_wp2
  have bO := Boxed.new w 24 (.slice none 0 0); have hB0 : Below w.heap.size w (w.alloc (.cells #[.slice none 0 0] 24)) := (Below.refl _ w).alloc (Nat.le_refl _) _
  refine wpIn_rangeFunc_ownG hro h1 (gf := 151) (lb := #[.pointer (some ⟨Bs, 0, none⟩)]) rfl h5 (enters_of func151 (by kernel_rfl) rfl)
    (values_stops F (n - 1) h5 hro (by omega) Bs w.heap.size sv zs hbytes _ (by simp; omega) (by simp) ((hB0.cell (p := ⟨Bs, 0, none⟩) hBs).trans hcB) (hI.below hB0)) belowK_t (belowK_b (by simp)) (Below.refl _ _) (fun _ => rfl)
    (fun pre W => (∃ v, Boxed W w.heap.size 24 v ∧ W.ownsRow w.heap.size 3 1 v pre.length (pre.map (Value.int .i64)) ∧ (v = .slice none 0 0 ↔ pre = [])) ∧ Below w.heap.size w W)
    (fun _ _ _ => False)
    (OwnFrom.and (Own.from (holdsRow_own w.heap.size w.heap.size 24 3 1 (fun pre : List Int => pre.length) (fun pre => pre.map (Value.int .i64)) (fun pre v => v = .slice none 0 0 ↔ pre = [])) _) (ownFrom_below (Nat.le_refl _) (by simp)))
    (fun _ _ _ _ _ hs _ _ => hs)
    ⟨⟨_, bO, World.ownsRow_nil _ _ _ _, by simp⟩, hB0⟩
    (fun x => { tmps := #[.slice none 0 0, .func (.func 151) #[] #[.pointer (some ⟨Bs, 0, none⟩)], .pointer (some ⟨w.heap.size, 0, none⟩), undef, .slice none 0 0, .int .i64 x, .func (.func 151) #[] #[.pointer (some ⟨Bs, 0, none⟩)], .int .i64 x, undef, undef, undef, undef, undef], defers := [] }) ?assign ?body ?done ?stop
  case assign =>
    intro l x W K hK
    gi_wp2
    exact hK
  case body =>
    rintro l pre x W ⟨⟨v, hv, hrow, hnil⟩, hB⟩ hlt; have hc := hv.cell
    gi_wp2_with (gi_at_builtin; refine wpListIn_append_own _ rfl _ _ 24 rfl w.heap.size 3 i0 (.int .i64 0) 1 8 underlying24 hi hz0 hz1 hz2 rfl (by decide) _ _ _ rfl (hrow.alloc _) ⟨W.heap.size, 0, none⟩ 1 1 [.int .i64 x] rfl rfl (cell_one_new _ _ _) (by simp [Value.oneCell']) (by omega) (by omega) (by have := hB.size; simp; omega) ?_; intro v' w1 hown' hgrow _; obtain ⟨g', cap', rfl⟩ := ownsRow_succ hown'; obtain ⟨hv1, hv2, hr2, hk2, hb2⟩ := hv.appended (by decide) hrow hB.size (Nat.le_refl _) hown' hgrow; have hc1 := hv1.cell; have hf1 := hv1.frozen)
    exact ⟨hk2.from _, hb2, ⟨_, hv2, by simpa using hr2, by simp⟩, hB.trans hb2⟩
  case done =>
    rintro D ys W hD rfl ⟨⟨v, hv, hrow, hnil⟩, hB⟩ hK; have hc := hv.cell
    gi_wp2
    refine ⟨by simp, .inl ⟨_, _, rfl, run_takeDeferred hK, ?_⟩⟩; exact ⟨_, results_tmp rfl _ _ _, v, rfl, ownsRow_putObj hrow _ hK rfl, hnil, hB.trans (belowK_b (w := w) (Nat.le_refl _) W D _ _ (by simp at hD; omega) hK rfl rfl)⟩
  case stop =>
    rintro D c pre W _ _ h _; exact h.elim
set_option maxRecDepth 100000 in
set_option maxHeartbeats 2000000 in
theorem collect_in (F : Fence) (n : Nat) (h8 : F.fn 149) (h3 : F.fn 153) (h5 : F.fn 151) (hro : F.round = none) (hn : 4 ≤ n) (Bs : Nat) (sv : Value) (zs : List Int) (hlen : zs.length ≤ maxLen) (hbytes : zs.length * 8 ≤ 140737488351232) (w : World) (hBs : Bs < w.heap.size) (hcB : w.cell? ⟨Bs, 0, none⟩ = some sv) (hI : Ints w.heap.size w sv zs) :
    CallsIn F n Tryz.prog 149 #[.func (.func 151) #[] #[.pointer (some ⟨Bs, 0, none⟩)]] w fun e W' => ∃ v, e = .returned v ∧ W'.ownsRow w.heap.size 3 1 v zs.length (zs.map (Value.int .i64)) ∧ (v = .slice none 0 0 ↔ zs = []) ∧ Below w.heap.size w W' := by
  have h1 : 1 ≤ n := by omega
  refine callsIn_of_wp func149 rfl h8 ?_ hro; simp only [ntmps149, List.size_toArray, List.length_cons, List.length_nil, Nat.reduceAdd, Nat.reduceSub, Array.replicate_succ, Array.replicate_zero, List.push_toArray, List.append_toArray, List.nil_append, List.cons_append]
  gi_wp2_with (gi_at_call 153; refine (appendSeq_in F (n - 1) h3 h5 hro (by omega) Bs sv zs hlen hbytes _ hBs hcB hI).mono ?_; rintro e w' ⟨v, rfl, hrow, hnil, hb⟩)
  go_ret
  exact ⟨v, rfl, hrow, hnil, hb⟩
set_option maxRecDepth 100000 in
set_option maxHeartbeats 2000000 in
theorem sorted_in (F : Fence) (n : Nat) (h6 : F.fn 146) (h8 : F.fn 149) (h9 : F.fn 150) (h3 : F.fn 153) (h5 : F.fn 151) (hro : F.round = none) (hs1 : ∀ (blk off cap : Nat) (ss : List Int) (W : World), Holds (Value.int .i64) W blk off ss.toArray → blk < W.heap.size → ss.length < 4611686018427387904 →
    CallsIn F (n - 1) Tryz.prog 150 #[.slice (some ⟨blk, off, none⟩) ss.length cap] W fun e w' => e = .returned (.tuple #[]) ∧ ∃ k os, w' = grow (putRow (Value.int .i64) (Sort.ahead W k) blk off (ss.mergeSort fun x y => decide (x ≤ y)).toArray) os)
    (hs2 : ∀ (W : World), CallsIn F (n - 1) Tryz.prog 150 #[.slice none 0 0] W fun e w' => e = .returned (.tuple #[]) ∧ w' = W) (hn : 5 ≤ n) (Bs : Nat) (sv : Value) (zs : List Int) (hlen : zs.length ≤ 1000000000) (w : World) (hBs : Bs < w.heap.size) (hcB : w.cell? ⟨Bs, 0, none⟩ = some sv) (hI : Ints w.heap.size w sv zs) :
    CallsIn F n Tryz.prog 146 #[.func (.func 151) #[] #[.pointer (some ⟨Bs, 0, none⟩)]] w fun e W' => ∃ v, e = .returned v ∧ W'.ownsRow w.heap.size 3 1 v zs.length ((zs.mergeSort (fun x y => decide (x ≤ y))).map (Value.int .i64)) ∧ Below w.heap.size w W' := by
  have h1 : 1 ≤ n := by omega
  refine callsIn_of_wp func146 rfl h6 ?_ hro; simp only [ntmps146, List.size_toArray, List.length_cons, List.length_nil, Nat.reduceAdd, Nat.reduceSub, Array.replicate_succ, Array.replicate_zero, List.push_toArray, List.append_toArray, List.nil_append, List.cons_append]; have cC := collect_in F (n - 1) h8 h3 h5 hro (by omega) Bs sv zs (by unfold maxLen; omega) (by omega) w hBs hcB hI
  gi_wp2_with (gi_at_call 149; refine cC.mono ?_; rintro e W ⟨v, rfl, hrow, hnil, hb⟩)
  rcases hrow.2 with ⟨rfl, hz⟩ | ⟨gb, cap, cur, rfl, hbase, hgb, r1, r2, r3, r4⟩
  · have hss : zs = [] := List.eq_nil_of_length_eq_zero hz; subst hss
    gi_wp2_with (gi_at_call 150; refine (hs2 W).mono ?_; rintro e w' ⟨rfl, rfl⟩)
    go_ret
    exact ⟨.slice none 0 0, rfl, by simpa using hrow, hb⟩
  · have hH : Holds (Value.int .i64) W gb 0 zs.toArray := Go.holds_of_blockI hgb (by simpa using r4); have hgl : gb < W.heap.size := (Array.getElem?_eq_some_iff.1 hgb).1; have hsz : zs.length < 4611686018427387904 := by omega
    have cS := hs1 gb 0 cap zs W hH hgl hsz
    gi_wp2_with (gi_at_call 150; refine cS.mono ?_; rintro e w' ⟨rfl, nn, os, rfl⟩)
    go_ret
    exact ⟨_, rfl, Go.ownsRow_sortedI (by simp) hbase hgb r1 r2 r3, hb.grown (Go.grownBy_sortedI _) hb.size (fun j hj => by cases hj; exact hbase)⟩
end Go.Proofs.YtaanjifekgfemaaGreat.J
namespace Go.Proofs.YtaanjifekgfemaaGreat.Cl
open Tryz
open Go.RowKit Go.Shelf Go.Sort Go.Proofs.YtaanjifekgfemaaGreat.K Go.Proofs.YtaanjifekgfemaaGreat.W
theorem St.below_new {w0 w w' : World} {F0 : List Nat} {L G : List Res} {r : Res} (h : St w0 F0 w L G) (hb : Below w.heap.size w w') (hr : r.holds w') (hf : ∀ b ∈ r.fp, w.heap.size ≤ b ∧ b < w'.heap.size) (hn : r.fp.Nodup) : St w0 F0 w' (r :: L) G := by
  refine St.step (L1 := []) (L2 := [r]) (L := L) h hb.os hb.tape hb.output hb.size (fun b hb' _ => hb.block b hb') ?_ ?_ ?_
  · intro b hb'; simp only [fps_cons, fps_nil, List.append_nil] at hb'; exact .inr (hf b hb')
  · simpa using hn
  · intro x hx; rw [List.mem_singleton] at hx; subst hx; exact hr
theorem St.newRow {w0 w w' : World} {F0 : List Nat} {L G : List Res} {v : Value} {e : TypeId} {size n : Nat} {xs : List Value} (h : St w0 F0 w L G) (hb : Below w.heap.size w w') (hr : w'.ownsRow w.heap.size e size v n xs) : St w0 F0 w' (rowR v e size n xs :: L) G := by
  refine St.below_new h hb ?_ ?_ ?_
  · refine ⟨hr.1, ?_⟩; rcases hr.2 with h | ⟨g, cap, cur, h1, h2, h3⟩
    · exact .inl h
    · exact .inr ⟨g, cap, cur, h1, Nat.zero_le _, h3⟩
  · intro b hb'; rcases hr.2 with ⟨rfl, _⟩ | ⟨g, cap, cur, rfl, h2, h3, _⟩
    · cases hb'
    · obtain rfl : b = g := by simpa [blockOf] using hb'
      exact ⟨h2, (Array.getElem?_eq_some_iff.1 h3).1⟩
  · rcases hr.2 with ⟨rfl, _⟩ | ⟨g, cap, cur, rfl, _⟩ <;> simp [blockOf]
theorem sorted_any (l : List Int) (hl : l.length ≤ 1000000000) (Bs : Nat) (A : Option Addr) (cap : Nat) (w0 w : World) (F0 : List Nat) (L G : List Res) (hst : St w0 F0 w (cellsR Bs [.slice A l.length cap] 24 :: L) G) (hr : rowR (.slice A l.length cap) 3 1 l.length (ivs l) ∈ L) :
    Calls Tryz.prog 146 #[.func (.func 151) #[] #[.pointer (some ⟨Bs, 0, none⟩)]] w fun e w' => ∃ A' c', e = .returned (.slice A' l.length c') ∧ St w0 F0 w' (rowR (.slice A' l.length c') 3 1 l.length (ivs (l.mergeSort fun x y => decide (x ≤ y))) :: cellsR Bs [.slice A l.length cap] 24 :: L) G := by
  have hcR := hst.res _ (List.Mem.head _); have hc : w.cell? ⟨Bs, 0, none⟩ = some (.slice A l.length cap) := cellsR_cell hcR 0; have hlt := cellsR_lt hcR; have hrow : w.ownsRow 0 3 1 (.slice A l.length cap) l.length (ivs l) := hst.res _ (List.mem_cons_of_mem _ hr)
  have hI : J.Ints w.heap.size w (.slice A l.length cap) l := by
    rcases hrow.2 with ⟨h1, h2⟩ | ⟨g, cap', cur, h1, h2, h3, h4⟩
    · exact .inl ⟨h1, List.eq_nil_of_length_eq_zero h2⟩
    · injection h1 with h1 h5 h6; subst h1; subst h6; refine .inr ⟨g, 0, cap, rfl, (Array.getElem?_eq_some_iff.1 h3).1, fun j hj => ?_⟩; rw [Nat.zero_add, World.ownsRow.cellAt hrow j (by omega)]; simp [ivs, hj, W.i64]
  refine (callsIn_wide.1 (J.sorted_in Fence.wide 5 trivial trivial trivial trivial trivial rfl (fun blk off cap ss W h1 h2 h3 => callsIn_wide.2 (Tryz.slices_Sort_int blk off cap ss W h1 h2 h3)) (fun W => callsIn_wide.2 (Tryz.slices_Sort_int_none none 0 W)) (by omega) Bs _ l hl w hlt hc hI)).mono ?_; rintro e w' ⟨v, rfl, hrow', hb⟩; have h2 := St.newRow hst hb hrow'; obtain ⟨A', c', rfl, _⟩ := rowR_shape (h2.res _ (List.Mem.head _)); exact ⟨A', c', rfl, h2⟩
theorem sort_any (l : List Int) (n : Nat) (hn : l.length = n) (hl : n ≤ 1000000000) (A : Option Addr) (cap : Nat) (w0 w : World) (F0 : List Nat) (L G : List Res) (hst : St w0 F0 w (rowR (.slice A n cap) 3 1 n (ivs l) :: L) G) :
    Calls Tryz.prog 150 #[.slice A n cap] w fun e w' => e = .returned (.tuple #[]) ∧ St w0 F0 w' L G := by
  subst hn; have hrow : w.ownsRow 0 3 1 (.slice A l.length cap) l.length (ivs l) := hst.res _ (List.Mem.head _); rcases hrow.2 with ⟨h1, h2⟩ | ⟨g, cap', cur, h1, h2, h3, r1, r2, r3, r4⟩
  · rw [h2]; refine (Tryz.slices_Sort_int_none A cap w).mono ?_; rintro e w' ⟨rfl, rfl⟩; exact ⟨rfl, hst.drop⟩
  · injection h1 with h1 h5 h6; subst h1; subst h6; have hgl : g < w.heap.size := (Array.getElem?_eq_some_iff.1 h3).1; have hH : Holds (Value.int .i64) w g 0 l.toArray := Go.holds_of_blockI h3 (by have := r4; rw [Nat.mul_one] at this; exact this); refine (Tryz.slices_Sort_int g 0 cap l w hH hgl (by omega)).mono ?_; rintro e w' ⟨rfl, k, os, rfl⟩; refine ⟨rfl, ?_⟩; have hgr := Go.grownBy_sortedI (w := w) (g := g) (n := k) (os := os) (l.mergeSort fun x y => decide (x ≤ y)).toArray; have := St.step (L1 := [rowR (.slice (some ⟨g, 0, none⟩) l.length cap) 3 1 l.length (ivs l)]) (L2 := []) (L := L) hst hgr.os hgr.tape hgr.output hgr.size (fun b hb hbn => hgr.block b hb (fun e => hbn (by injection e with e; subst e; simp [blockOf]))) (by simp) (by simp) (by simp); exact this
end Go.Proofs.YtaanjifekgfemaaGreat.Cl
end
section
namespace Go.Proofs.YtaanjifekgfemaaGreat.Cl
open Tryz
open Go.RowKit Go.Proofs.YtaanjifekgfemaaGreat.K Go.Proofs.YtaanjifekgfemaaGreat.W
def srt (l : List Int) : List Int := l.mergeSort fun x y => decide (x ≤ y)
theorem srt_length (l : List Int) : (srt l).length = l.length := List.length_mergeSort ..
def leastOk (k : Int) (l : List Int) : Prop := 0 ≤ k ∧ k < l.length
instance (k : Int) (l : List Int) : Decidable (leastOk k l) := by unfold leastOk; infer_instance
def leastV (k : Int) (l : List Int) : Int := if leastOk k l then (srt l).getD k.toNat 0 else 0
def mostV (k : Int) (l : List Int) : Int := if leastOk k l then leastV (l.length - 1 - k) l else 0
def losOf (l : List Sp) : List Int := l.map (·.lo)
def hisOf (l : List Sp) : List Int := l.map (·.hi)
def spC (s : Sp) : List Value := [.int .i64 s.lo, .int .i64 s.hi]
theorem spC_len (s : Sp) : (spC s).length = 2 := rfl
def manyOk (f : Int) (n : Nat) : Prop := ¬ (f < 0 ∨ (n : Int) ≤ f ∨ (n : Int) - f ≤ f)
instance (f : Int) (n : Nat) : Decidable (manyOk f n) := by unfold manyOk; infer_instance
def fuseOk (f : Int) (l : List Sp) : Prop := manyOk f l.length ∧ mostV f (losOf l) ≤ leastV f (hisOf l)
instance (f : Int) (l : List Sp) : Decidable (fuseOk f l) := by unfold fuseOk; infer_instance
def fuseV (f : Int) (l : List Sp) : Sp := if fuseOk f l then Sp.of (mostV f (losOf l)) (leastV f (hisOf l)) else ⟨0, 0⟩
def heldV (f : Int) (l : List Int) : Int := if leastOk f l then moreHeld (leastV f l) else 1073741824
theorem ivs_snoc (l : List Int) (k : Nat) (h : k < l.length) : ivs (l.take k) ++ [.int .i64 l[k]] = ivs (l.take (k + 1)) := by
  rw [List.take_succ_eq_append_getElem h]; unfold ivs; rw [List.map_append]; rfl
theorem losOf_snoc (l : List Sp) (k : Nat) (h : k < l.length) : ivs ((losOf l).take k) ++ [.int .i64 l[k].lo] = ivs ((losOf l).take (k + 1)) := by
  have := ivs_snoc (losOf l) k (by simpa [losOf] using h); rw [← this]; simp [losOf]
theorem hisOf_snoc (l : List Sp) (k : Nat) (h : k < l.length) : ivs ((hisOf l).take k) ++ [.int .i64 l[k].hi] = ivs ((hisOf l).take (k + 1)) := by
  have := ivs_snoc (hisOf l) k (by simpa [hisOf] using h); rw [← this]; simp [hisOf]
end Go.Proofs.YtaanjifekgfemaaGreat.Cl
end
section
namespace Go.Proofs.YtaanjifekgfemaaGreat.K
open Tryz
open Go.RowKit
section
variable {P : Program} {n : Fr} {c : Code} {Q : Post} {ρ : Env} {w0 w : World} {F0 : List Nat} {L G : List Res} {S : World → Prop} {ty t t' : TypeId} {x y : Operand}
theorem X.appG (hst : St w0 F0 w L G) (j : Nat) {e : TypeId} (ht : P.underlying t = some (.slice e)) {z : Value} {size bytes : Nat} (hinfo : (P.info? e).map (fun i => (i.zero, i.size, i.bytes)) = some (some z, size, bytes)) (hzs : z.cells.size = size) (hsz : Nat.blt 0 size = true)
    {A : Option Addr} {m cp : Nat} {xs : List Value} (hx : ev ρ x = .slice A m cp) (hL : L[j]? = some (rowR (.slice A m cp) e size m xs)) {u : Value} {m' : Nat} {news : List Value} (hy : ev ρ y = u) (hr : Rds L G u m' news) (hl : news.length = m' * size) (h1 : ∀ u ∈ news, u.oneCell' = true)
    (h63 : m + m' ≤ maxLen) (hbytes : (m + m') * bytes ≤ 140737488355328) {K : Value → World → Prop} (k : ∀ A' c' w', St w0 F0 w' (L.set j (rowR (.slice A' (m + m') c') e size (m + m') (xs ++ news))) G → K (.slice A' (m + m') c') w') :
    X P ρ w (.call { callee := .builtin .append, args := #[x, y], argTypes := #[t, t] }) ty K := by
  refine X.append hst j ht hinfo hzs hsz hx hL hy hr hl h1 h63 hbytes fun v' w' h => ?_
  have hj : j < L.length := by
    rcases Nat.lt_or_ge j L.length with h | h
    · exact h
    · rw [List.getElem?_eq_none h] at hL; cases hL
  have hm : rowR v' e size (m + m') (xs ++ news) ∈ L.set j (rowR v' e size (m + m') (xs ++ news)) := List.mem_set hj _; obtain ⟨A', c', rfl, _⟩ := rowR_shape (h.res _ hm); exact k A' c' w' h
theorem X.app (hst : St w0 F0 w L G) (j i : Nat) {e : TypeId} (ht : P.underlying t = some (.slice e)) {z : Value} {size bytes : Nat} (hinfo : (P.info? e).map (fun i => (i.zero, i.size, i.bytes)) = some (some z, size, bytes)) (hzs : z.cells.size = size) (hsz : Nat.blt 0 size = true)
    {A : Option Addr} {m cp : Nat} {xs : List Value} (hx : ev ρ x = .slice A m cp) (hL : L[j]? = some (rowR (.slice A m cp) e size m xs)) {b : Nat} {e' : TypeId} {news : List Value} (hy : ev ρ y = .slice (some ⟨b, 0, none⟩) 1 1) (hi : L[i]? = some (cellsR b news e')) (hl : news.length = 1 * size) (h1 : (news.all fun u => u.oneCell') = true)
    (h63 : m + 1 ≤ maxLen) (hbytes : (m + 1) * bytes ≤ 140737488355328) {K : Value → World → Prop} (k : ∀ A' c' w', St w0 F0 w' (L.set j (rowR (.slice A' (m + 1) c') e size (m + 1) (xs ++ news))) G → K (.slice A' (m + 1) c') w') :
    X P ρ w (.call { callee := .builtin .append, args := #[x, y], argTypes := #[t, t] }) ty K :=
  X.appG hst j ht hinfo hzs hsz hx hL hy (Rds.ofCells i hi 1 1) hl (fun u hu => List.all_eq_true.1 h1 u hu) h63 hbytes k
theorem Drw.zyb {T : List Nat} {i d : Nat} {r : Tr} {op : Op} {ps : String} {af : Array Edge} {gd : Option (Nat × Bool)} {p : Bool} {S' : World → Prop} (ho : opat c i = some ⟨some d, op, ty, ps, af, gd⟩) (hw : wants c ρ gd = true) (hd : okD n (some d) = true) (hT : T.contains i = true)
    (hS : S' w) (hy : Y P S' ρ op ty (.bool p)) (k : ∀ b, b = p → Drw P n c Q S T r (upd ρ d (.bool b)) w) : Drw P n c Q S T (.op i 1 r) ρ w := Drw.zy ho hw hd hT hS hy (k p rfl)
theorem Rds.hd {v : Value} {m : Nat} {xs : List Value} (h : Rds [] G v m xs) : Rds L G v m xs := h.mono (fun r hr => by cases hr) (fun r hr => hr)
theorem Rds.moreG {v : Value} {m : Nat} {xs : List Value} {G' : List Res} (h : Rds L G v m xs) (hG : ∀ r ∈ G, r ∈ G') : Rds L G' v m xs := h.mono (fun r hr => .inl hr) hG
end
end Go.Proofs.YtaanjifekgfemaaGreat.K
end
section
namespace Go.Proofs.YtaanjifekgfemaaGreat.Cl
open Tryz
open Go.RowKit Go.Proofs.YtaanjifekgfemaaGreat.K Go.Proofs.YtaanjifekgfemaaGreat.W
attribute [local irreducible] bound clip adds sub neg mag mulp mul maxs
theorem cf121 : CF 121 := fun _ _ => by simp [go_sem]
theorem cf130 : CF 130 := fun _ _ => by simp [go_sem]
theorem cf140 : CF 140 := fun _ _ => by simp [go_sem]
theorem cf141 : CF 141 := fun _ _ => by simp [go_sem]
theorem cf146 : CF 146 := fun _ _ => by simp [go_sem]
theorem cf147 : CF 147 := fun _ _ => by simp [go_sem]
theorem info3 : (Tryz.prog.info? 3).map (fun i => (i.zero, i.size, i.bytes)) = some (some (Value.int .i64 0), 1, 8) := by kernel_rfl
theorem values_any (A : Option Addr) (n c : Nat) (w0 w : World) (F0 : List Nat) (L G : List Res) (hst : St w0 F0 w L G) :
    Calls Tryz.prog 147 #[.slice A n c] w fun e w' => ∃ p, e = .returned (.func (.func 151) #[] #[.pointer (some ⟨p, 0, none⟩)]) ∧ St w0 F0 w' (cellsR p [.slice A n c] 24 :: L) G := by
  refine W.func func147 rfl ntmps147 rfl<|W.sr rfl<|Ops.ww rfl (X.box1 hst (.slice _ _ _) rfl rfl fun p1 w1 hst => hst.y rfl (Y.assignV rfl)<|Ops.ds rfl rfl<|hst.y rfl (Y.makeFunc rfl rfl)<|hst.y rfl (Y.assignV rfl)<|Ops.done rfl<|W.ret rfl<|⟨_, Rslt.one results147 rfl, ?_⟩); exact ⟨_, rfl, hst⟩
theorem least_any (k : Int) (l : List Int) (n : Nat) (hn : l.length = n) (hl : n ≤ 1000000) (A : Option Addr) (cap : Nat) (w0 w : World) (F0 : List Nat) (L G : List Res) (hst : St w0 F0 w L G) (hr : rowR (.slice A n cap) 3 1 n (ivs l) ∈ L) :
    Calls Tryz.prog 141 #[.int .i64 k, .slice A n cap] w fun e w' => ∃ b, e = .returned (.tuple #[.int .i64 (leastV k l), .bool b]) ∧ b = decide (leastOk k l) ∧ St w0 F0 w' L G := by
  subst hn; refine W.func func141 rfl ntmps141 rfl<|W.sr rfl<|hst.y rfl (Y.assignI rfl)<|hst.y rfl (Y.assignB rfl)<|Ops.done rfl<|W.seq rfl<|W.sr rfl<|hst.y rfl (Y.moveI rfl)<|hst.yb rfl (Y.lss rfl rfl) (fun b8 hb8 => hst.y rfl (Y.moveB rfl)<|?_); cases b8
  · replace hb8 := dF hb8; refine hst.y rfl (Y.moveI rfl)<|hst.y rfl (Y.moveS rfl)<|hst.y rfl (Y.lenS underlying24 rfl)<|hst.yb rfl (Y.geq rfl rfl) (fun b13 hb13 => hst.y rfl (Y.pB rfl rfl)<|Ops.done rfl<|?_); cases b13
    · replace hb13 := dF hb13; refine W.condF rfl rfl<|W.skip rfl<|W.sr rfl<|hst.y rfl (Y.moveS rfl)<|Ops.ww rfl (X.call cf147 rfl<|?_); refine use_call (values_any A l.length cap _ _ _ _ _ hst) rfl ?_; clear hst; rintro e w16 ⟨p16, rfl, hst⟩; refine ⟨_, rfl, ?_⟩; refine Ops.ww rfl (X.call cf146 rfl ?_); refine use_call (sorted_any l (by omega) p16 A cap _ _ _ _ _ hst hr) rfl ?_; clear hst; rintro e w17 ⟨A17, c17, rfl, hst⟩; refine ⟨_, rfl, ?_⟩; refine hst.y rfl (Y.assignS rfl)<|Ops.done rfl<|W.seq rfl<|?_; obtain ⟨kn, rfl⟩ : ∃ n : Nat, k = (n : Int) := ⟨k.toNat, by omega⟩; have hk1 : kn < (srt l).length := by rw [srt_length]; omega
      have hok : leastOk (kn : Int) l := by unfold leastOk; omega
      refine W.region rfl<|hst.y rfl (Y.moveS rfl)<|hst.y rfl (Y.moveI rfl)<|hst.y rfl (Y.indexAddr underlying24 sizeOf3 rfl rfl ((Rds.sl (Rds.rowL 0 (by rfl)) hst).ne (by show 0 < (ivs (srt l)).length; simp [ivs]; omega)) (by omega))<|?_; refine hst.y rfl (Y.loadSl isAgg3 rfl (Rds.rowL 0 rfl) (ivs_get (l := srt l) hk1))<|hst.y rfl (Y.assignI rfl)<|hst.y rfl (Y.assignB rfl)<|Ops.done rfl<|W.ret rfl<|⟨_, Rslt.two results141 rfl rfl, ?_⟩; have hq : (srt l).getD kn 0 = leastV (kn : Int) l := (if_pos hok).symm; exact ⟨true, by rw [← hq]; first | done | rfl, (decide_eq_true hok).symm, (hst.dr 2)⟩
    · replace hb13 := dT hb13; refine W.condT rfl rfl<|W.sr rfl<|hst.y rfl (Y.assignI rfl)<|hst.y rfl (Y.assignB rfl)<|Ops.done rfl<|W.ret rfl<|⟨_, Rslt.two results141 rfl rfl, ?_⟩; have hok : ¬ leastOk k l := by unfold leastOk; omega
      have hq : (0 : Int) = leastV k l := (if_neg hok).symm; exact ⟨false, by rw [← hq]; first | done | rfl, (decide_eq_false hok).symm, hst⟩
  · replace hb8 := dT hb8; refine Ops.nn rfl<|Ops.nn rfl<|Ops.nn rfl<|Ops.nn rfl<|hst.y rfl (Y.pB rfl rfl)<|Ops.done rfl<|W.condT rfl rfl<|W.sr rfl<|hst.y rfl (Y.assignI rfl)<|hst.y rfl (Y.assignB rfl)<|Ops.done rfl<|W.ret rfl<|⟨_, Rslt.two results141 rfl rfl, ?_⟩; have hok : ¬ leastOk k l := by unfold leastOk; omega
    have hq : (0 : Int) = leastV k l := (if_neg hok).symm; exact ⟨false, by rw [← hq]; first | done | rfl, (decide_eq_false hok).symm, hst⟩
theorem most_any2 (k : Int) (l : List Int) (n : Nat) (hn : l.length = n) (hl : n ≤ 1000000) (A : Option Addr) (cap : Nat) (w0 w : World) (F0 : List Nat) (L G : List Res) (hst : St w0 F0 w L G) (hr : rowR (.slice A n cap) 3 1 n (ivs l) ∈ L) :
    Calls Tryz.prog 140 #[.int .i64 k, .slice A n cap] w fun e w' => ∃ b, e = .returned (.tuple #[.int .i64 (mostV k l), .bool b]) ∧ b = decide (leastOk k l) ∧ St w0 F0 w' L G := by
  subst hn; refine W.func func140 rfl ntmps140 rfl<|W.sr rfl<|hst.y rfl (Y.assignI rfl)<|hst.y rfl (Y.assignB rfl)<|Ops.done rfl<|W.seq rfl<|W.sr rfl<|hst.y rfl (Y.moveI rfl)<|hst.yb rfl (Y.lss rfl rfl) (fun b7 hb7 => hst.y rfl (Y.moveB rfl)<|?_); cases b7
  · replace hb7 := dF hb7; refine hst.y rfl (Y.moveI rfl)<|hst.y rfl (Y.moveS rfl)<|hst.y rfl (Y.lenS underlying24 rfl)<|hst.yb rfl (Y.geq rfl rfl) (fun b12 hb12 => hst.y rfl (Y.pB rfl rfl)<|Ops.done rfl<|?_); cases b12
    · replace hb12 := dF hb12; refine W.condF rfl rfl<|W.skip rfl<|W.sr rfl<|hst.y rfl (Y.moveS rfl)<|hst.y rfl (Y.lenS underlying24 rfl)<|hst.y rfl (Y.subI rfl rfl (by omega))<|hst.y rfl (Y.moveI rfl)<|hst.y rfl (Y.subI rfl rfl (by omega))<|hst.y rfl (Y.moveS rfl)<|Ops.ww rfl (X.call cf141 rfl<|?_); refine use_call (least_any _ l _ rfl hl A cap _ _ _ _ _ hst hr) rfl ?_; clear hst; rintro e w20 ⟨b20, rfl, hb20, hst⟩; refine ⟨_, rfl, ?_⟩; refine hst.y rfl (Y.extract rfl rfl)<|hst.y rfl (Y.extract rfl rfl)<|hst.y rfl (Y.assignI rfl)<|hst.y rfl (Y.assignB rfl)<|Ops.done rfl<|W.ret rfl<|⟨_, Rslt.two results140 rfl rfl, ?_⟩; have hok : leastOk k l := by unfold leastOk; omega
      have hok2 : leastOk (l.length - 1 - k) l := by unfold leastOk; omega
      have hq : leastV (l.length - 1 - k) l = mostV k l := (if_pos hok).symm; exact ⟨b20, by rw [← hq]; first | done | rfl, by rw [hb20, decide_eq_true hok, decide_eq_true hok2], hst⟩
    · replace hb12 := dT hb12; refine W.condT rfl rfl<|W.sr rfl<|hst.y rfl (Y.assignI rfl)<|hst.y rfl (Y.assignB rfl)<|Ops.done rfl<|W.ret rfl<|⟨_, Rslt.two results140 rfl rfl, ?_⟩; have hok : ¬ leastOk k l := by unfold leastOk; omega
      have hq : (0 : Int) = mostV k l := (if_neg hok).symm; exact ⟨false, by rw [← hq]; first | done | rfl, (decide_eq_false hok).symm, hst⟩
  · replace hb7 := dT hb7; refine Ops.nn rfl<|Ops.nn rfl<|Ops.nn rfl<|Ops.nn rfl<|hst.y rfl (Y.pB rfl rfl)<|Ops.done rfl<|W.condT rfl rfl<|W.sr rfl<|hst.y rfl (Y.assignI rfl)<|hst.y rfl (Y.assignB rfl)<|Ops.done rfl<|W.ret rfl<|⟨_, Rslt.two results140 rfl rfl, ?_⟩; have hok : ¬ leastOk k l := by unfold leastOk; omega
    have hq : (0 : Int) = mostV k l := (if_neg hok).symm; exact ⟨false, by rw [← hq]; first | done | rfl, (decide_eq_false hok).symm, hst⟩
theorem fuse_any (f : Int) (l : List Sp) (hl : l.length ≤ 1000000) (A : Option Addr) (cap : Nat) (w0 w : World) (F0 : List Nat) (L G : List Res) (hst : St w0 F0 w L G) (hr : Rds L G (.slice A l.length cap) l.length (flat spC l)) :
    Calls Tryz.prog 130 #[.int .i64 f, .slice A l.length cap] w fun e w' => ∃ b, e = .returned (.tuple #[.agg #[.int .i64 (fuseV f l).lo, .int .i64 (fuseV f l).hi], .bool b]) ∧ b = decide (fuseOk f l) ∧ St w0 F0 w' L G := by
  refine W.func func130 rfl ntmps130 rfl<|W.sr rfl<|Ops.ww rfl (X.allocA hst zeroValue53 fun p4 w4 hst => hst.y rfl (Y.assignB rfl)<|Ops.done rfl<|W.seq rfl<|W.sr rfl<|hst.y rfl (Y.moveI rfl)<|hst.yb rfl (Y.lss rfl rfl) (fun b15 hb15 => hst.y rfl (Y.moveB rfl)<|?_)); cases b15
  · replace hb15 := dF hb15; refine hst.y rfl (Y.moveI rfl)<|hst.y rfl (Y.moveS rfl)<|hst.y rfl (Y.lenS underlying228 rfl)<|hst.yb rfl (Y.geq rfl rfl) (fun b20 hb20 => hst.y rfl (Y.pB rfl rfl)<|hst.y rfl (Y.moveB rfl)<|?_); cases b20
    · replace hb20 := dF hb20; refine hst.y rfl (Y.moveS rfl)<|hst.y rfl (Y.lenS underlying228 rfl)<|hst.y rfl (Y.moveI rfl)<|hst.y rfl (Y.subI rfl rfl (by omega))<|hst.y rfl (Y.moveI rfl)<|hst.yb rfl (Y.leq rfl rfl) (fun b28 hb28 => hst.y rfl (Y.pB rfl rfl)<|Ops.done rfl<|?_); cases b28
      · replace hb28 := dF hb28; refine W.condF rfl rfl<|W.skip rfl<|W.sr rfl<|hst.y rfl (Y.assignS rfl)<|hst.y rfl (Y.assignS rfl)<|Ops.done rfl<|W.seq rfl<|W.sr rfl<|?_; replace hst := (hst.nilRow 3 1).nilRow 3 1; refine hst.y rfl (Y.moveS rfl)<|hst.y rfl (Y.lenS underlying228 rfl)<|hst.y rfl (Y.moveI rfl)<|Ops.done rfl<|W.block rfl<|?_; refine W.loop (γ := Nat × (Option Addr × Nat) × (Option Addr × Nat)) [(0, .int _ _), (4, .pointer _), (31, .slice _ _ _), (32, .int _ _)] (fun x => [(6, .slice x.2.1.1 x.1 x.2.1.2), (7, .slice x.2.2.1 x.1 x.2.2.2), (33, .int .i64 (x.1 : Int))]) (fun x w => x.1 ≤ l.length ∧ St w0 F0 w (rowR (.slice x.2.1.1 x.1 x.2.1.2) 3 1 x.1 (ivs ((losOf l).take x.1)) :: rowR (.slice x.2.2.1 x.1 x.2.2.2) 3 1 x.1 (ivs ((hisOf l).take x.1)) :: cellsR p4 [.int .i64 0, .int .i64 0] 53 :: L) G) (fun x => l.length - x.1) ((0, (none, 0), (none, 0))) rfl ⟨rfl, rfl, rfl, rfl, trivial⟩ ?_ ?_ ?_
        · exact ⟨rfl, rfl, rfl, trivial⟩
        · exact ⟨by omega, hst⟩
        · clear hst; rintro ⟨k, ⟨A6, c6⟩, ⟨A7, c7⟩⟩ j w5 ⟨hk, hst⟩; refine W.sr rfl<|hst.yb rfl (Y.lss rfl rfl) (fun b34 hb34 => Ops.done rfl<|W.seq rfl<|?_); cases b34
          · replace hb34 := dF hb34; refine W.condF rfl rfl<|W.exit rfl<|W.seq rfl<|?_; obtain rfl : k = l.length := by omega
            have e1 : (losOf l).take l.length = losOf l := List.take_of_length_le (by simp [losOf]); have e2 : (hisOf l).take l.length = hisOf l := List.take_of_length_le (by simp [hisOf]); rw [e1, e2] at hst; refine W.region rfl<|hst.y rfl (Y.moveI rfl)<|hst.y rfl (Y.moveS rfl)<|Ops.ww rfl (X.call cf140 rfl<|?_); refine use_call (most_any2 f (losOf l) l.length (by simp [losOf]) hl A6 c6 _ _ _ _ _ hst (.head _)) rfl ?_; clear hst; rintro e w51 ⟨b51, rfl, hb51, hst⟩; refine ⟨_, rfl, ?_⟩; refine hst.y rfl (Y.moveU rfl)<|hst.y rfl (Y.extract rfl rfl)<|hst.y rfl (Y.extract rfl rfl)<|hst.y rfl (Y.assignI rfl)<|hst.y rfl (Y.assignB rfl)<|Ops.ds rfl rfl<|hst.y rfl (Y.moveI rfl)<|hst.y rfl (Y.moveS rfl)<|Ops.ww rfl (X.call cf141 rfl<|?_); refine use_call (least_any f (hisOf l) l.length (by simp [hisOf]) hl A7 c7 _ _ _ _ _ hst (.tail _ (.head _))) rfl ?_; clear hst; rintro e w57 ⟨b57, rfl, hb57, hst⟩; refine ⟨_, rfl, ?_⟩; refine hst.y rfl (Y.moveU rfl)<|hst.y rfl (Y.extract rfl rfl)<|hst.y rfl (Y.extract rfl rfl)<|hst.y rfl (Y.assignI rfl)<|hst.y rfl (Y.assignB rfl)<|Ops.done rfl<|W.seq rfl<|W.sr rfl<|hst.y rfl (Y.moveI rfl)<|hst.y rfl (Y.moveI rfl)<|hst.yb rfl (Y.gtr rfl rfl) (fun b62 hb62 => Ops.done rfl<|?_); cases b62
            · replace hb62 := dF hb62; refine W.condF rfl rfl<|W.skip rfl<|W.sr rfl<|hst.y rfl (Y.moveI rfl)<|hst.y rfl (Y.moveI rfl)<|Ops.ww rfl (X.ret cf35 (of_any _ _ _ _ _ _ _ hst ) rfl fun w66 hst => Ops.ww rfl (X.storeS hst 2 sizeOf53 rfl rfl rfl rfl rfl (lZ rfl) rfl rfl fun w13_3 hst => hst.y rfl (Y.assignB rfl)<|Ops.done rfl<|W.ret rfl<|⟨_, Rslt.cellTmp results130 rfl (res_at isAgg53 sizeOf53 2 hst rfl rfl) rfl, ?_⟩)); have hok : fuseOk f l := ⟨by unfold manyOk; omega, by omega⟩; have hq : Sp.of (mostV f (losOf l)) (leastV f (hisOf l)) = fuseV f l := (if_pos hok).symm; exact ⟨true, by rw [← hq]; first | done | rfl, (decide_eq_true hok).symm, (hst.dr 3)⟩
            · replace hb62 := dT hb62; refine W.condT rfl rfl<|W.sr rfl<|hst.y rfl (bd53_ rfl)<|Ops.ww rfl (X.storeS hst 2 sizeOf53 rfl rfl rfl rfl rfl (lZ rfl) rfl rfl fun w12_1 hst => hst.y rfl (Y.assignB rfl)<|Ops.done rfl<|W.ret rfl<|⟨_, Rslt.cellTmp results130 rfl (res_at isAgg53 sizeOf53 2 hst rfl rfl) rfl, ?_⟩); have hok : ¬ fuseOk f l := fun h => absurd h.2 (by omega); have hq : (⟨0, 0⟩ : Sp) = fuseV f l := (if_neg hok).symm; exact ⟨false, by rw [← hq]; first | done | rfl, (decide_eq_false hok).symm, (hst.dr 3)⟩
          · replace hb34 := dT hb34; refine W.condT rfl rfl<|W.skip rfl<|W.seq rfl<|W.block rfl<|W.seq rfl<|?_; have hk1 : k < l.length := by omega
            refine W.region rfl<|hst.y rfl (Y.indexAddr underlying228 sizeOf53 rfl rfl ((Rds.sl (((hr.cons _).cons _).cons _) hst).ne (flat_pos spC_len (by decide) (by omega))) (by omega))<|?_; refine hst.y rfl (Y.loadSlA isAgg53 sizeOf53 rfl (((hr.cons _).cons _).cons _) (flat_atI spC_len l k hk1) (spC_len _))<|Ops.ww rfl (X.allocA hst zeroValue53 fun p9 w9 hst => Ops.ww rfl (X.storeS hst 0 sizeOf53 rfl rfl rfl rfl rfl (lZ rfl) rfl rfl fun w6_3 hst => Ops.done rfl<|?_)); replace hst := hst.up_2; replace hst := hst.up_2; refine W.cut [(0, .int _ _), (4, .pointer _), (31, .slice _ _ _), (32, .int _ _), (33, .int _ _)] (fun x : (Option Addr × Nat) × (Option Addr × Nat) => [(6, .slice x.1.1 (k + 1) x.1.2), (7, .slice x.2.1 (k + 1) x.2.2)]) (fun x w => St w0 F0 w (rowR (.slice x.1.1 (k + 1) x.1.2) 3 1 (k + 1) (ivs ((losOf l).take (k + 1))) :: rowR (.slice x.2.1 (k + 1) x.2.2) 3 1 (k + 1) (ivs ((hisOf l).take (k + 1))) :: cellsR p4 [.int .i64 0, .int .i64 0] 53 :: L) G) ⟨rfl, rfl, rfl, rfl, rfl, trivial⟩ ?_ ?_
            rotate_left
            · clear hst; rintro ⟨⟨A8, c8⟩, ⟨A9, c9⟩⟩ j w8 hst; refine W.region rfl<|hst.y rfl (Y.addI rfl rfl (by omega))<|hst.y rfl (Y.moveI rfl)<|Ops.done rfl<|?_; exact ⟨(k + 1, (A8, c8), (A9, c9)), ⟨rfl, rfl, rfl, trivial⟩, ⟨rfl, rfl, rfl, rfl, trivial⟩, ⟨by omega, hst⟩, by dsimp only at *; omega⟩
            refine hst.dw 2 [] (T0 [0,1,2,5,6,7] (.alt 3 (.alt 4 (T1 [8,9] (T0 [10,11] .nil)) (T1 [8,4,9] (T0 [10,11] .nil))) (T1 [8,3,4,9] (T0 [10,11] .nil)))) rfl (by kernel_rfl) rfl (by kernel_rfl) fun wd hst => ?_; refine Drw.q rfl (hst.cx 2) (Y.moveS rfl)<|Drw.q rfl (hst.cx 2) (Y.fieldAddr fa53_0 rfl)<|Drw.q rfl (hst.cx 2) (Y.load 0 isAgg3 rfl rfl rfl)<|Drw.q rfl (hst.cx 2) (Y.moveS rfl)<|Drw.q rfl (hst.cx 2) (Y.fieldAddr fa53_1 rfl)<|Drw.q rfl (hst.cx 2) (Y.load 0 isAgg3 rfl rfl rfl)<|?_; refine Drw.alts (Alts.more ?_ (Alts.one ?_))
            · refine One.ww rfl (X.lits hst underlying24 sizeOf3 zeroValue3 (by rfl) (by rfl) (by rfl) [.int _ _] (by rfl) (by rfl) fun p40 w40 hst => ⟨(hst.cx 3), ?_⟩); refine Drw.alts (Alts.more ?_ (Alts.one ?_))
              · refine One.ww rfl (X.app hst 1 0 underlying24 info3 rfl rfl rfl rfl rfl rfl rfl rfl (by unfold maxLen; omega) (by omega) fun A41 c41 w41 hst => ⟨(hst.cx 3), ?_⟩); refine Drw.ww rfl (X.lits hst underlying24 sizeOf3 zeroValue3 (by rfl) (by rfl) (by rfl) [.int _ _] (by rfl) (by rfl) fun p45 w45 hst => ⟨(hst.cx 4), ?_⟩); refine Drw.ww rfl (X.app hst 3 0 underlying24 info3 rfl rfl rfl rfl rfl rfl rfl rfl (by unfold maxLen; omega) (by omega) fun A46 c46 w46 hst => ⟨(hst.cx 4), ?_⟩); refine Drw.q rfl (hst.cx 4) (Y.assignS rfl)<|Drw.q rfl (hst.cx 4) (Y.assignS rfl)<|Drw.done<|⟨((_, _), (_, _)), ⟨rfl, rfl, trivial⟩, ⟨rfl, rfl, rfl, rfl, rfl, trivial⟩, ?_⟩; rw [← losOf_snoc l k hk1, ← hisOf_snoc l k hk1]; exact (hst.sub (.cons _ (.cons _ (.cons_cons _ (.cons_cons _ (.cons _ (.cons_cons _ (.refl _))))))))
              · refine One.ww rfl (X.lits hst underlying24 sizeOf3 zeroValue3 (by rfl) (by rfl) (by rfl) [.int _ _] (by rfl) (by rfl) fun p45 w45 hst => ⟨(hst.cx 4), ?_⟩); refine Drw.ww rfl (X.app hst 2 1 underlying24 info3 rfl rfl rfl rfl rfl rfl rfl rfl (by unfold maxLen; omega) (by omega) fun A41 c41 w41 hst => ⟨(hst.cx 4), ?_⟩); refine Drw.ww rfl (X.app hst 3 0 underlying24 info3 rfl rfl rfl rfl rfl rfl rfl rfl (by unfold maxLen; omega) (by omega) fun A46 c46 w46 hst => ⟨(hst.cx 4), ?_⟩); refine Drw.q rfl (hst.cx 4) (Y.assignS rfl)<|Drw.q rfl (hst.cx 4) (Y.assignS rfl)<|Drw.done<|⟨((_, _), (_, _)), ⟨rfl, rfl, trivial⟩, ⟨rfl, rfl, rfl, rfl, rfl, trivial⟩, ?_⟩; rw [← losOf_snoc l k hk1, ← hisOf_snoc l k hk1]; exact (hst.sub (.cons _ (.cons _ (.cons_cons _ (.cons_cons _ (.cons _ (.cons_cons _ (.refl _))))))))
            · refine One.ww rfl (X.lits hst underlying24 sizeOf3 zeroValue3 (by rfl) (by rfl) (by rfl) [.int _ _] (by rfl) (by rfl) fun p45 w45 hst => ⟨(hst.cx 3), ?_⟩); refine Drw.ww rfl (X.lits hst underlying24 sizeOf3 zeroValue3 (by rfl) (by rfl) (by rfl) [.int _ _] (by rfl) (by rfl) fun p40 w40 hst => ⟨(hst.cx 4), ?_⟩); refine Drw.ww rfl (X.app hst 2 0 underlying24 info3 rfl rfl rfl rfl rfl rfl rfl rfl (by unfold maxLen; omega) (by omega) fun A41 c41 w41 hst => ⟨(hst.cx 4), ?_⟩); refine Drw.ww rfl (X.app hst 3 1 underlying24 info3 rfl rfl rfl rfl rfl rfl rfl rfl (by unfold maxLen; omega) (by omega) fun A46 c46 w46 hst => ⟨(hst.cx 4), ?_⟩); refine Drw.q rfl (hst.cx 4) (Y.assignS rfl)<|Drw.q rfl (hst.cx 4) (Y.assignS rfl)<|Drw.done<|⟨((_, _), (_, _)), ⟨rfl, rfl, trivial⟩, ⟨rfl, rfl, rfl, rfl, rfl, trivial⟩, ?_⟩; rw [← losOf_snoc l k hk1, ← hisOf_snoc l k hk1]; exact (hst.sub (.cons _ (.cons _ (.cons_cons _ (.cons_cons _ (.cons _ (.cons_cons _ (.refl _))))))))
      · replace hb28 := dT hb28; refine W.condT rfl rfl<|W.sr rfl<|hst.y rfl (bd53_ rfl)<|Ops.ww rfl (X.storeS hst 0 sizeOf53 rfl rfl rfl rfl rfl (lZ rfl) rfl rfl fun w2_1 hst => hst.y rfl (Y.assignB rfl)<|Ops.done rfl<|W.ret rfl<|⟨_, Rslt.cellTmp results130 rfl (res_at isAgg53 sizeOf53 0 hst rfl rfl) rfl, ?_⟩); have hok : ¬ fuseOk f l := fun h => absurd h.1 (by unfold manyOk; omega); have hq : (⟨0, 0⟩ : Sp) = fuseV f l := (if_neg hok).symm; exact ⟨false, by rw [← hq]; first | done | rfl, (decide_eq_false hok).symm, (hst.dr 1)⟩
    · replace hb20 := dT hb20; refine Ops.nn rfl<|Ops.nn rfl<|Ops.nn rfl<|Ops.nn rfl<|Ops.nn rfl<|Ops.nn rfl<|hst.y rfl (Y.pB rfl rfl)<|Ops.done rfl<|W.condT rfl rfl<|W.sr rfl<|hst.y rfl (bd53_ rfl)<|Ops.ww rfl (X.storeS hst 0 sizeOf53 rfl rfl rfl rfl rfl (lZ rfl) rfl rfl fun w2_1 hst => hst.y rfl (Y.assignB rfl)<|Ops.done rfl<|W.ret rfl<|⟨_, Rslt.cellTmp results130 rfl (res_at isAgg53 sizeOf53 0 hst rfl rfl) rfl, ?_⟩); have hok : ¬ fuseOk f l := fun h => absurd h.1 (by unfold manyOk; omega); have hq : (⟨0, 0⟩ : Sp) = fuseV f l := (if_neg hok).symm; exact ⟨false, by rw [← hq]; first | done | rfl, (decide_eq_false hok).symm, (hst.dr 1)⟩
  · replace hb15 := dT hb15; refine Ops.nn rfl<|Ops.nn rfl<|Ops.nn rfl<|Ops.nn rfl<|hst.y rfl (Y.pB rfl rfl)<|hst.y rfl (Y.moveB rfl)<|Ops.nn rfl<|Ops.nn rfl<|Ops.nn rfl<|Ops.nn rfl<|Ops.nn rfl<|Ops.nn rfl<|hst.y rfl (Y.pB rfl rfl)<|Ops.done rfl<|W.condT rfl rfl<|W.sr rfl<|hst.y rfl (bd53_ rfl)<|Ops.ww rfl (X.storeS hst 0 sizeOf53 rfl rfl rfl rfl rfl (lZ rfl) rfl rfl fun w2_1 hst => hst.y rfl (Y.assignB rfl)<|Ops.done rfl<|W.ret rfl<|⟨_, Rslt.cellTmp results130 rfl (res_at isAgg53 sizeOf53 0 hst rfl rfl) rfl, ?_⟩); have hok : ¬ fuseOk f l := fun h => absurd h.1 (by unfold manyOk; omega); have hq : (⟨0, 0⟩ : Sp) = fuseV f l := (if_neg hok).symm; exact ⟨false, by rw [← hq]; first | done | rfl, (decide_eq_false hok).symm, (hst.dr 1)⟩
theorem afuse_any (p : Par) (l : List Sp) (hl : l.length ≤ 1000000) (A : Option Addr) (cap : Nat) (w0 w : World) (F0 : List Nat) (L G : List Res) (hst : St w0 F0 w L G) (hr : Rds L G (.slice A l.length cap) l.length (flat spC l)) :
    Calls Tryz.prog 122 #[.agg #[.int .i64 p.N, .int .i64 p.F, .int .i64 p.D, .int .i64 p.Beat, .int .i64 p.Rho, .int .i64 p.Delay, .int .i64 p.Jitter, .int .i64 p.Eps, .int .i64 p.Mu, .int .i64 p.Hold, .int .i64 p.Pulse, .int .i64 p.Second], .slice A l.length cap] w fun e w' => ∃ b, e = .returned (.tuple #[.agg #[.int .i64 (fuseV p.F l).lo, .int .i64 (fuseV p.F l).hi], .bool b]) ∧ b = decide (fuseOk p.F l) ∧ St w0 F0 w' L G := by
  refine W.func func122 rfl ntmps122 rfl<|W.sr rfl<|Ops.ww rfl (X.boxA hst rfl fun p2 w2 hst => Ops.ww rfl (X.allocA hst zeroValue53 fun p4 w4 hst => hst.y rfl (Y.assignB rfl)<|Ops.ds rfl rfl<|hst.y rfl (Y.fieldAddr fa23_1 rfl)<|hst.y rfl (Y.load 1 isAgg3 rfl rfl rfl)<|hst.y rfl (Y.moveS rfl)<|Ops.ww rfl (X.call cf130 rfl<|?_))); refine use_call (fuse_any p.F l hl A cap _ _ _ _ _ hst ((hr.cons _).cons _)) rfl ?_; clear hst; rintro e w9 ⟨b9, rfl, hb9, hst⟩; refine ⟨_, rfl, ?_⟩; refine hst.y rfl (Y.extract rfl rfl)<|hst.y rfl (Y.extract rfl rfl)<|Ops.ww rfl (X.storeS hst 0 sizeOf53 rfl rfl rfl rfl rfl (lZ rfl) rfl rfl fun w1_6 hst => hst.y rfl (Y.assignB rfl)<|Ops.done rfl<|W.ret rfl<|⟨_, Rslt.cellTmp results122 rfl (res_at isAgg53 sizeOf53 0 hst rfl rfl) rfl, ?_⟩); exact ⟨b9, rfl, hb9, (hst.dr 2)⟩
theorem held_any (p : Par) (l : List Int) (hl : l.length ≤ 1000000) (A : Option Addr) (cap : Nat) (w0 w : World) (F0 : List Nat) (L G : List Res) (hst : St w0 F0 w L G) (hr : rowR (.slice A l.length cap) 3 1 l.length (ivs l) ∈ L) :
    Calls Tryz.prog 183 #[.agg #[.int .i64 p.N, .int .i64 p.F, .int .i64 p.D, .int .i64 p.Beat, .int .i64 p.Rho, .int .i64 p.Delay, .int .i64 p.Jitter, .int .i64 p.Eps, .int .i64 p.Mu, .int .i64 p.Hold, .int .i64 p.Pulse, .int .i64 p.Second], .slice A l.length cap] w fun e w' => ∃ b, e = .returned (.tuple #[.int .i64 (heldV p.F l), .bool b]) ∧ St w0 F0 w' L G := by
  refine W.func func183 rfl ntmps183 rfl<|W.sr rfl<|Ops.ww rfl (X.boxA hst rfl fun p2 w2 hst => hst.y rfl (Y.assignI rfl)<|hst.y rfl (Y.assignB rfl)<|Ops.ds rfl rfl<|hst.y rfl (Y.fieldAddr fa23_1 rfl)<|hst.y rfl (Y.load 0 isAgg3 rfl rfl rfl)<|hst.y rfl (Y.moveS rfl)<|Ops.ww rfl (X.call cf141 rfl<|?_)); refine use_call (least_any p.F l _ rfl hl A cap _ _ _ _ _ hst (.tail _ hr)) rfl ?_; clear hst; rintro e w12 ⟨b12, rfl, hb12, hst⟩; refine ⟨_, rfl, ?_⟩; refine hst.y rfl (Y.moveU rfl)<|hst.y rfl (Y.extract rfl rfl)<|hst.y rfl (Y.extract rfl rfl)<|hst.y rfl (Y.assignI rfl)<|hst.y rfl (Y.assignB rfl)<|Ops.done rfl<|W.seq rfl<|W.sr rfl<|hst.y rfl (Y.moveB rfl)<|?_; cases b12
  · replace hb12 := dF hb12; refine hst.y rfl (Y.not rfl)<|Ops.done rfl<|W.condT rfl rfl<|W.sr rfl<|hst.y rfl (Y.assignI rfl)<|hst.y rfl (Y.assignB rfl)<|Ops.done rfl<|W.ret rfl<|⟨_, Rslt.two results183 rfl rfl, ?_⟩; have hq : (1073741824 : Int) = heldV p.F l := (if_neg hb12).symm; exact ⟨false, by rw [← hq]; first | done | rfl, (hst.dr 1)⟩
  · replace hb12 := dT hb12; refine hst.y rfl (Y.not rfl)<|Ops.done rfl<|W.condF rfl rfl<|W.skip rfl<|W.sr rfl<|hst.y rfl (Y.moveI rfl)<|Ops.ww rfl (X.ret cf121 (more_any _ _ _ _ _ _ hst ) rfl fun w18 hst => hst.y rfl (Y.assignI rfl)<|hst.y rfl (Y.assignB rfl)<|Ops.done rfl<|W.ret rfl<|⟨_, Rslt.two results183 rfl rfl, ?_⟩); have hq : moreHeld (leastV p.F l) = heldV p.F l := (if_pos hb12).symm; exact ⟨true, by rw [← hq]; first | done | rfl, (hst.dr 1)⟩
end Go.Proofs.YtaanjifekgfemaaGreat.Cl
end
section
namespace Go.Proofs.YtaanjifekgfemaaGreat.Cl
open Tryz
open Go.RowKit Go.Proofs.YtaanjifekgfemaaGreat.K Go.Proofs.YtaanjifekgfemaaGreat.W
structure Hd where
  m : M
  A : Option Addr
  cap : Nat
  age : Int
def msgC (m : M) (A : Option Addr) (cap : Nat) : List Value := [.int .i64 m.kind, .int .i64 m.from_, .int .i64 m.slo, .int .i64 m.shi, .int .i64 m.held, .int .i64 m.hops, .bool m.good, .bool m.ref, .int .i64 m.elo, .int .i64 m.ehi, .int .i64 m.pulse, .int .i64 m.time, .int .i64 m.num, .slice A m.tab.length cap]
def hdC (h : Hd) : List Value := [.int .i64 h.m.kind, .int .i64 h.m.from_, .int .i64 h.m.slo, .int .i64 h.m.shi, .int .i64 h.m.held, .int .i64 h.m.hops, .bool h.m.good, .bool h.m.ref, .int .i64 h.m.elo, .int .i64 h.m.ehi, .int .i64 h.m.pulse, .int .i64 h.m.time, .int .i64 h.m.num, .slice h.A h.m.tab.length h.cap, .int .i64 h.age]
theorem hdC_len (h : Hd) : (hdC h).length = 15 := rfl
def tk (p : Par) (me : Int) (out : List Hd) (h : Hd) : Prop := h.m.kind = 1 ∧ 0 ≤ h.m.from_ ∧ h.m.from_ < min p.N 16 ∧ h.m.from_ ≠ me ∧ ¬ ∃ x ∈ out, decide (x.m.from_ = h.m.from_) = true
instance (p : Par) (me : Int) (out : List Hd) (h : Hd) : Decidable (tk p me out h) := by unfold tk; infer_instance
def tkStep (p : Par) (me : Int) (out : List Hd) (h : Hd) : List Hd := if tk p me out h then out ++ [h] else out
def told (p : Par) (me : Int) (l : List Hd) : List Hd := l.foldl (tkStep p me) []
theorem told_snoc (p : Par) (me : Int) (l : List Hd) (k : Nat) (h : k < l.length) : told p me (l.take (k + 1)) = tkStep p me (told p me (l.take k)) l[k] := by
  unfold told; rw [List.take_succ_eq_append_getElem h, List.foldl_append]; rfl
def Asc (l : List Hd) : Prop := l.Pairwise fun a b => a.m.from_ ≤ b.m.from_
theorem Asc.sublist {l l' : List Hd} (h : Asc l) (hs : l'.Sublist l) : Asc l' := List.Pairwise.sublist hs h
theorem told_sublist (p : Par) (me : Int) (l : List Hd) : (told p me l).Sublist l := by
  unfold told
  have : ∀ (l pre out : List Hd), out.Sublist pre → (l.foldl (tkStep p me) out).Sublist (pre ++ l) := by
    intro l
    induction l with
    | nil => intro pre out h; simpa using h
    | cons x l ih =>
      intro pre out h
      have h2 : (tkStep p me out x).Sublist (pre ++ [x]) := by
        unfold tkStep; split
        · exact List.Sublist.append h (.refl _)
        · exact h.trans (List.sublist_append_left _ _)
      have := ih (pre ++ [x]) _ h2; simpa using this
  simpa using this l [] [] (.refl _)
theorem told_mem {p : Par} {me : Int} {l : List Hd} {h : Hd} (hm : h ∈ told p me l) : h ∈ l ∧ h.m.kind = 1 ∧ 0 ≤ h.m.from_ ∧ h.m.from_ < min p.N 16 ∧ h.m.from_ ≠ me := by
  refine ⟨(told_sublist p me l).mem hm, ?_⟩; unfold told at hm
  have : ∀ (l out : List Hd), (∀ h ∈ out, h.m.kind = 1 ∧ 0 ≤ h.m.from_ ∧ h.m.from_ < min p.N 16 ∧ h.m.from_ ≠ me) → ∀ h ∈ l.foldl (tkStep p me) out, h.m.kind = 1 ∧ 0 ≤ h.m.from_ ∧ h.m.from_ < min p.N 16 ∧ h.m.from_ ≠ me := by
    intro l
    induction l with
    | nil => intro out h; exact h
    | cons x l ih =>
      intro out h; refine ih _ ?_; unfold tkStep; split
      · rename_i ht; intro y hy; rcases List.mem_append.1 hy with hy | hy
        · exact h y hy
        · rw [List.mem_singleton] at hy; subst hy; exact ⟨ht.1, ht.2.1, ht.2.2.1, ht.2.2.2.1⟩
      · exact h
  exact this l [] (by simp) h hm
theorem told_nodup (p : Par) (me : Int) (l : List Hd) : (told p me l).Pairwise fun a b => a.m.from_ ≠ b.m.from_ := by
  unfold told
  have : ∀ (l out : List Hd), out.Pairwise (fun a b => a.m.from_ ≠ b.m.from_) → (l.foldl (tkStep p me) out).Pairwise fun a b => a.m.from_ ≠ b.m.from_ := by
    intro l
    induction l with
    | nil => intro out h; exact h
    | cons x l ih =>
      intro out h; refine ih _ ?_; unfold tkStep; split
      · rename_i ht; rw [List.pairwise_append]; refine ⟨h, List.pairwise_singleton _ _, fun a ha b hb => ?_⟩; rw [List.mem_singleton] at hb; subst hb; exact fun e => ht.2.2.2.2 ⟨a, ha, decide_eq_true e⟩
      · exact h
  exact this l [] .nil
theorem told_length {p : Par} {me : Int} {l : List Hd} (h : Asc l) : (told p me l).length ≤ 16 := by
  have h1 := h.sublist (told_sublist p me l); have h2 := told_nodup p me l; have h3 : ∀ x ∈ told p me l, 0 ≤ x.m.from_ ∧ x.m.from_ < 16 := fun x hx => by have := told_mem hx; omega
  have key : ∀ (l : List Hd) (a : Int), l.Pairwise (fun a b => a.m.from_ ≤ b.m.from_) → l.Pairwise (fun a b => a.m.from_ ≠ b.m.from_) → (∀ x ∈ l, a ≤ x.m.from_ ∧ x.m.from_ < 16) → a ≤ 16 → (l.length : Int) ≤ 16 - a := by
    intro l
    induction l with
    | nil => intro a _ _ _ _; simp only [List.length_nil]; omega
    | cons x l ih =>
      intro a h1 h2 h3 ha; rw [List.pairwise_cons] at h1 h2; have hx := h3 x (by simp); have := ih (x.m.from_ + 1) h1.2 h2.2 (fun y hy => by have e1 := h1.1 y hy; have e2 := h2.1 y hy; have e3 := h3 y (by simp [hy]); omega) (by omega); simp only [List.length_cons]; omega
  have := key _ 0 h1 h2 h3 (by decide); omega
end Go.Proofs.YtaanjifekgfemaaGreat.Cl
end
section
namespace Go.Proofs.YtaanjifekgfemaaGreat.Cl
open Tryz
open Go.RowKit Go.Proofs.YtaanjifekgfemaaGreat.K Go.Proofs.YtaanjifekgfemaaGreat.W
attribute [local irreducible] bound clip adds sub neg mag mulp mul maxs
theorem fa138_0 : FA 138 0 0 := fun _ _ => by simp [Instr.fieldAt, Instr.sureAddr, go_sem]
theorem cf125 : CF 125 := fun _ _ => by simp [go_sem]
theorem cf127 : CF 127 := fun _ _ => by simp [go_sem]
theorem cf139 : CF 139 := fun _ _ => by simp [go_sem]
theorem cf144 : CF 144 := fun _ _ => by simp [go_sem]
theorem info138 : (Tryz.prog.info? 138).map (fun i => (i.zero, i.size, i.bytes)) = some (some (.agg #[Value.int .i64 0, Value.int .i64 0, Value.int .i64 0, Value.int .i64 0, Value.int .i64 0, Value.int .i64 0, Value.bool false, Value.bool false, Value.int .i64 0, Value.int .i64 0, Value.int .i64 0, Value.int .i64 0, Value.int .i64 0, Value.slice none 0 0, Value.int .i64 0]), 15, 128) := by kernel_rfl
theorem cf126 : CF 126 := fun _ _ => by simp [go_sem]
theorem cf128 : CF 128 := fun _ _ => by simp [go_sem]
theorem told1_any (x : Hd) (y : M) (B : Option Addr) (cb : Nat) (b : Nat) (w0 w : World) (F0 : List Nat) (L G : List Res) (hst : St w0 F0 w L G) (j : Nat) (hj : L[j]? = some (cellsR b (msgC y B cb) 103)) :
    Calls Tryz.prog 126 #[.agg (hdC x).toArray, .pointer (some ⟨b, 0, none⟩)] w fun e w' => e = .returned (.bool (decide (x.m.from_ = y.from_))) ∧ St w0 F0 w' L G := by
  refine W.func func126 rfl ntmps126 rfl<|W.sr rfl<|Ops.ww rfl (X.boxA hst rfl fun p2 w2 hst => hst.y rfl (Y.assignB rfl)<|Ops.ds rfl rfl<|hst.y rfl (Y.fieldAddr fa138_0 rfl)<|hst.y rfl (Y.fieldAddr fa103_1 rfl)<|hst.y rfl (Y.load 0 isAgg3 rfl rfl rfl)<|?_)
  first
  | refine hst.y rfl (Y.fieldAddr fa103_1 rfl) ?_
  | refine hst.y rfl (Y.fieldAddrP fa103_1 rfl) ?_
  refine hst.y rfl (Y.load (j + 1) isAgg3 rfl (by simpa using hj) rfl) ?_; refine hst.yb rfl (Y.eql rfl rfl) (fun b9 hb9 => hst.y rfl (Y.assignB rfl)<|Ops.done rfl<|W.ret rfl<|⟨_, Rslt.one results126 rfl, ?_⟩); exact ⟨congrArg (fun b => Ending.returned (.bool b)) hb9, (hst.dr 1)⟩
theorem told2_any (x y : Hd) (hx : 0 ≤ x.m.from_ ∧ x.m.from_ < 16) (hy : 0 ≤ y.m.from_ ∧ y.m.from_ < 16) (w0 w : World) (F0 : List Nat) (L G : List Res) (hst : St w0 F0 w L G) :
    Calls Tryz.prog 128 #[.agg (hdC x).toArray, .agg (hdC y).toArray] w fun e w' => e = .returned (.int .i64 (x.m.from_ - y.m.from_)) ∧ St w0 F0 w' L G := by
  refine W.func func128 rfl ntmps128 rfl<|W.sr rfl<|Ops.ww rfl (X.boxA hst rfl fun p2 w2 hst => Ops.ww rfl (X.boxA hst rfl fun p3 w3 hst => hst.y rfl (Y.assignI rfl)<|Ops.ds rfl rfl<|hst.y rfl (Y.fieldAddr fa138_0 rfl)<|hst.y rfl (Y.fieldAddr fa103_1 rfl)<|hst.y rfl (Y.load 1 isAgg3 rfl rfl rfl)<|hst.y rfl (Y.fieldAddr fa138_0 rfl)<|hst.y rfl (Y.fieldAddr fa103_1 rfl)<|hst.y rfl (Y.load 0 isAgg3 rfl rfl rfl)<|hst.y rfl (Y.subI rfl rfl (by omega))<|hst.y rfl (Y.assignI rfl)<|Ops.done rfl<|W.ret rfl<|⟨_, Rslt.one results128 rfl, ?_⟩)); exact ⟨rfl, (hst.dr 2)⟩
theorem hasc_at {l : List Hd} (h : Asc l) (k : Nat) (hk : k + 1 < l.length) : l[k].m.from_ ≤ l[k + 1].m.from_ := (List.pairwise_iff_getElem.1 h) k (k + 1) (by omega) hk (by omega)
theorem flat_atS {α : Type} {c : α → List Value} {m : Nat} (hc : ∀ x, (c x).length = m) (l : List α) (k : Nat) (h : k + 1 < l.length) : ((flat c l).drop (((k : Int) + 1).toNat * m)).take m = c l[k + 1] := flat_at hc l (k + 1) h
theorem flat_atP {α : Type} {c : α → List Value} {m : Nat} (hc : ∀ x, (c x).length = m) (l : List α) (k : Nat) (h : k < l.length) : ((flat c l).drop (((k : Int) + 1 - 1).toNat * m)).take m = c l[k] := by
  rw [show ((k : Int) + 1 - 1).toNat = k by omega]; exact flat_at hc l k h
theorem insert_any (l : List Hd) (hl : l.length ≤ 16) (hasc : Asc l) (hin : ∀ x ∈ l, 0 ≤ x.m.from_ ∧ x.m.from_ < 16) (A : Option Addr) (cap : Nat) (w0 w : World) (F0 : List Nat) (L G : List Res) (hst : St w0 F0 w L G) (hr : Rds L G (.slice A l.length cap) l.length (flat hdC l)) :
    Calls Tryz.prog 144 #[.slice A l.length cap, .int .i64 0, .int .i64 l.length, .func (.func 128) #[] #[]] w fun e w' => e = .returned (.tuple #[]) ∧ St w0 F0 w' L G := by
  refine W.func func144 rfl ntmps144 rfl<|W.sr rfl<|hst.y rfl (Y.moveI rfl)<|hst.y rfl (Y.addI rfl rfl (by omega))<|hst.y rfl (Y.assignI rfl)<|Ops.done rfl<|W.block rfl<|?_; refine W.loop (γ := Nat) [(0, .slice _ _ _), (1, .int _ _), (2, .int _ _), (3, _)] (fun k => [(8, .int .i64 ((k : Int) + 1))]) (fun k w => (k ≤ l.length) ∧ St w0 F0 w L G) (fun k => l.length - k) (0) rfl ⟨rfl, rfl, rfl, rfl, trivial⟩ ?_ ?_ ?_
  · exact ⟨rfl, trivial⟩
  · exact ⟨by omega, hst⟩
  · clear hst; rintro k j w1 ⟨hk, hst⟩; refine W.seq rfl<|W.sr rfl<|hst.y rfl (Y.moveI rfl)<|hst.y rfl (Y.moveI rfl)<|hst.yb rfl (Y.lss rfl rfl) (fun b14 hb14 => Ops.done rfl<|?_); cases b14
    · replace hb14 := dF hb14; refine W.condF rfl rfl<|W.exit rfl<|⟨_, Rslt.none results144, ?_⟩; exact ⟨rfl, hst⟩
    · replace hb14 := dT hb14; refine W.condT rfl rfl<|W.skip rfl<|W.seq rfl<|W.block rfl<|W.sr rfl<|hst.y rfl (Y.moveI rfl)<|hst.y rfl (Y.assignI rfl)<|Ops.done rfl<|W.block rfl<|?_; refine W.loop (γ := Unit) [(0, .slice _ _ _), (1, .int _ _), (2, .int _ _), (3, _), (8, .int _ _)] (fun _ => [(9, .int .i64 ((k : Int) + 1))]) (fun _ w => St w0 F0 w L G) (fun _ => 0) (()) rfl ⟨rfl, rfl, rfl, rfl, rfl, trivial⟩ ?_ ?_ ?_
      · exact ⟨rfl, trivial⟩
      · exact hst
      · clear hst; rintro _ j2 w2 hst; refine W.seq rfl<|W.seq rfl<|?_; have hk1 : k + 1 < l.length := by omega
        have hle := hasc_at hasc k hk1; have hi1 := hin _ (List.getElem_mem hk1); have hi0 := hin _ (List.getElem_mem (show k < l.length by omega)); refine hst.dv [] (T0 [0,1,2,3,4,5,6,7,8,9,10,11,12,13] (.op 14 1 (T0 [15,16] .nil))) rfl (by kernel_rfl) rfl (by kernel_rfl) fun wd hst => ?_; refine hst.z rfl (Y.moveI rfl)<|hst.z rfl (Y.moveI rfl)<|Drw.yb rfl rfl rfl hst.ctx (Y.gtr rfl rfl) (fun b20 hb20 => hst.z rfl (Y.moveB rfl)<|?_); cases b20
        · replace hb20 := dF hb20; exact absurd hb20 (by omega)
        · replace hb20 := dT hb20; refine hst.z rfl (Y.moveV rfl)<|hst.z rfl (Y.moveS rfl)<|hst.z rfl (Y.moveI rfl)<|hst.z rfl (Y.indexAddr underlying97 sizeOf138 rfl rfl ((hr.sl hst).ne (flat_pos hdC_len (by decide) (by omega))) (by omega))<|?_; refine hst.z rfl (Y.loadSlA isAgg138 sizeOf138 rfl hr (flat_atS hdC_len l k hk1) (hdC_len _))<|hst.z rfl (Y.moveS rfl)<|hst.z rfl (Y.moveI rfl)<|hst.z rfl (Y.subI rfl rfl (by omega))<|hst.z rfl (Y.indexAddr underlying97 sizeOf138 rfl rfl ((hr.sl hst).ne (flat_pos hdC_len (by decide) (by omega))) (by omega))<|?_; refine hst.z rfl (Y.loadSlA isAgg138 sizeOf138 rfl hr (flat_atP hdC_len l k (by omega)) (hdC_len _))<|Drw.ww rfl (X.retV cf128 (fs := []) (cs := []) rfl (told2_any _ _ hi1 hi0 _ _ _ _ _ hst) rfl fun w32 hst => ⟨hst.ctx, Drw.yb rfl rfl rfl hst.ctx (Y.lss rfl rfl) (fun b33 hb33 => hst.z rfl (Y.pB rfl rfl)<|Drw.done<|?_)⟩); cases b33
          · replace hb33 := dF hb33; refine W.condF rfl rfl<|W.exit rfl<|W.region rfl<|hst.y rfl (Y.moveI rfl)<|hst.y rfl (Y.addI rfl rfl (by omega))<|hst.y rfl (Y.assignI rfl)<|Ops.done rfl<|?_; exact ⟨k + 1, ⟨rfl, trivial⟩, ⟨rfl, rfl, rfl, rfl, trivial⟩, ⟨by omega, hst⟩, by omega⟩
          · replace hb33 := dT hb33; exact absurd hb33 (by omega)
theorem stable_any (l : List Hd) (hl : l.length ≤ 16) (hasc : Asc l) (hin : ∀ x ∈ l, 0 ≤ x.m.from_ ∧ x.m.from_ < 16) (A : Option Addr) (cap : Nat) (w0 w : World) (F0 : List Nat) (L G : List Res) (hst : St w0 F0 w L G) (hr : Rds L G (.slice A l.length cap) l.length (flat hdC l)) :
    Calls Tryz.prog 139 #[.slice A l.length cap, .int .i64 l.length, .func (.func 128) #[] #[]] w fun e w' => e = .returned (.tuple #[]) ∧ St w0 F0 w' L G := by
  refine W.func func139 rfl ntmps139 rfl<|W.sr rfl<|hst.y rfl (Y.assignI rfl)<|Ops.ds rfl rfl<|hst.y rfl (Y.moveI rfl)<|hst.y rfl (Y.assignI rfl)<|hst.y rfl (Y.assignI rfl)<|Ops.done rfl<|W.seq rfl<|W.block rfl<|?_; refine W.loop (γ := Unit) [(0, .slice _ _ _), (1, .int _ _), (2, _), (6, .int _ _), (7, .int _ _), (8, .int _ _)] (fun _ => []) (fun _ w => St w0 F0 w L G) (fun _ => 0) (()) rfl ⟨rfl, rfl, rfl, rfl, rfl, rfl, trivial⟩ ?_ ?_ ?_
  · exact trivial
  · exact hst
  · clear hst; rintro _ j2 w2 hst; refine W.seq rfl<|W.sr rfl<|hst.y rfl (Y.moveI rfl)<|hst.y rfl (Y.moveI rfl)<|hst.yb rfl (Y.leq rfl rfl) (fun b13 hb13 => Ops.done rfl<|?_); cases b13
    · replace hb13 := dF hb13; refine W.condF rfl rfl<|W.exit rfl<|W.sr rfl<|hst.y rfl (Y.moveS rfl)<|hst.y rfl (Y.moveI rfl)<|hst.y rfl (Y.moveI rfl)<|hst.y rfl (Y.moveV rfl)<|Ops.ww rfl (X.ret cf144 (insert_any l hl hasc hin A cap _ _ _ _ _ hst hr) rfl fun w27 hst => Ops.done rfl<|W.block rfl<|?_); refine W.loop (γ := Unit) [(0, .slice _ _ _), (1, .int _ _), (2, _), (6, .int _ _)] (fun _ => []) (fun _ w => St w0 F0 w L G) (fun _ => 0) (()) rfl ⟨rfl, rfl, rfl, rfl, trivial⟩ ?_ ?_ ?_
      · exact trivial
      · exact hst
      · clear hst; rintro _ j2 w2 hst; refine W.seq rfl<|W.sr rfl<|hst.y rfl (Y.moveI rfl)<|hst.y rfl (Y.moveI rfl)<|hst.yb rfl (Y.lss rfl rfl) (fun b30 hb30 => Ops.done rfl<|?_); cases b30
        · replace hb30 := dF hb30; refine W.condF rfl rfl<|W.exit rfl<|⟨_, Rslt.none results139, ?_⟩; exact ⟨rfl, hst⟩
        · replace hb30 := dT hb30; exact absurd hb30 (by omega)
    · replace hb13 := dT hb13; exact absurd hb13 (by omega)
theorem sortStable_any (l : List Hd) (hl : l.length ≤ 16) (hasc : Asc l) (hin : ∀ x ∈ l, 0 ≤ x.m.from_ ∧ x.m.from_ < 16) (A : Option Addr) (cap : Nat) (w0 w : World) (F0 : List Nat) (L G : List Res) (hst : St w0 F0 w L G) (hr : Rds L G (.slice A l.length cap) l.length (flat hdC l)) :
    Calls Tryz.prog 127 #[.slice A l.length cap, .func (.func 128) #[] #[]] w fun e w' => e = .returned (.tuple #[]) ∧ St w0 F0 w' L G := by
  refine W.func func127 rfl ntmps127 rfl<|W.region rfl<|hst.y rfl (Y.moveS rfl)<|hst.y rfl (Y.moveS rfl)<|hst.y rfl (Y.lenS underlying97 rfl)<|hst.y rfl (Y.moveV rfl)<|Ops.ww rfl (X.ret cf139 (stable_any l hl hasc hin A cap _ _ _ _ _ hst hr) rfl fun w8 hst => Ops.done rfl<|⟨_, Rslt.none results127, ?_⟩); exact ⟨rfl, hst⟩
set_option maxHeartbeats 1000000 in
theorem told_any (p : Par) (me : Int) (l : List Hd) (hl : l.length ≤ 1000000) (hasc : Asc l) (A : Option Addr) (cap : Nat) (w0 w : World) (F0 : List Nat) (L G : List Res) (hst : St w0 F0 w L G) (hr : Rds L G (.slice A l.length cap) l.length (flat hdC l)) :
    Calls Tryz.prog 118 #[.agg #[.int .i64 p.N, .int .i64 p.F, .int .i64 p.D, .int .i64 p.Beat, .int .i64 p.Rho, .int .i64 p.Delay, .int .i64 p.Jitter, .int .i64 p.Eps, .int .i64 p.Mu, .int .i64 p.Hold, .int .i64 p.Pulse, .int .i64 p.Second], .int .i64 me, .slice A l.length cap] w fun e w' => ∃ A' c', e = .returned (.slice A' (told p me l).length c') ∧ St w0 F0 w' (rowR (.slice A' (told p me l).length c') 138 15 (told p me l).length (flat hdC (told p me l)) :: L) G := by
  refine W.func func118 rfl ntmps118 rfl<|W.sr rfl<|Ops.ww rfl (X.boxA hst rfl fun p3 w3 hst => hst.y rfl (Y.assignS rfl)<|Ops.ds rfl rfl<|hst.y rfl (Y.assignS rfl)<|Ops.done rfl<|W.seq rfl<|W.sr rfl<|?_); replace hst := hst.nilRow 138 15; refine hst.y rfl (Y.moveS rfl)<|hst.y rfl (Y.lenS underlying97 rfl)<|hst.y rfl (Y.moveI rfl)<|Ops.done rfl<|W.block rfl<|?_; refine W.loop (γ := Nat × (Option Addr × Nat)) [(1, .int _ _), (3, .pointer _), (12, .slice _ _ _), (13, .int _ _)] (fun x => [(7, .slice x.2.1 (told p me (l.take x.1)).length x.2.2), (14, .int .i64 (x.1 : Int))]) (fun x w => x.1 ≤ l.length ∧ St w0 F0 w (rowR (.slice x.2.1 (told p me (l.take x.1)).length x.2.2) 138 15 (told p me (l.take x.1)).length (flat hdC (told p me (l.take x.1))) :: cellsR p3 (parC p) 23 :: L) G) (fun x => l.length - x.1) ((0, (none, 0))) rfl ⟨rfl, rfl, rfl, rfl, trivial⟩ ?_ ?_ ?_
  · exact ⟨rfl, rfl, trivial⟩
  · exact ⟨by omega, hst⟩
  · clear hst; rintro ⟨k, ⟨A7, c7⟩⟩ j w5 ⟨hk, hst⟩; refine W.sr rfl<|hst.yb rfl (Y.lss rfl rfl) (fun b15 hb15 => Ops.done rfl<|W.seq rfl<|?_); cases b15
    · replace hb15 := dF hb15; refine W.condF rfl rfl<|W.exit rfl<|W.seq rfl<|?_; obtain rfl : k = l.length := by omega
      have e1 : l.take l.length = l := List.take_length; have hasc2 := hasc.sublist (List.take_sublist l.length l); refine W.region rfl<|hst.y rfl (Y.moveS rfl)<|Ops.ww rfl (X.ret cf127 (sortStable_any (told p me (l.take l.length)) (told_length hasc2) (hasc2.sublist (told_sublist p me _)) (fun x hx => by have := told_mem hx; omega) A7 c7 _ _ _ _ _ hst (Rds.rowL 0 rfl)) rfl fun w55 hst => ?_); refine Ops.ds rfl rfl<|hst.y rfl (Y.moveS rfl)<|hst.y rfl (Y.assignS rfl)<|Ops.done rfl<|W.ret rfl<|⟨_, Rslt.one results118 rfl, ?_⟩; have hst2 := (hst.sub (.cons_cons _ (.cons _ (.refl _)))); dsimp only at hst2; rw [e1] at hst2; exact ⟨A7, c7, congrArg (fun q => Ending.returned (.slice A7 (told p me q).length c7)) e1, hst2⟩
    · replace hb15 := dT hb15; refine W.condT rfl rfl<|W.skip rfl<|W.seq rfl<|W.block rfl<|W.seq rfl<|?_; have hk1 : k < l.length := by omega
      have htl : (told p me (l.take k)).length ≤ 1000000 := by have := (told_sublist p me (l.take k)).length_le; rw [List.length_take] at this; omega
      refine W.region rfl<|hst.y rfl (Y.indexAddr underlying97 sizeOf138 rfl rfl ((Rds.sl ((hr.cons _).cons _) hst).ne (flat_pos hdC_len (by decide) (by omega))) (by omega))<|?_; refine hst.y rfl (Y.loadSlA isAgg138 sizeOf138 rfl ((hr.cons _).cons _) (flat_atI hdC_len l k hk1) (hdC_len _))<|Ops.ww rfl (X.allocA hst zeroValue138 fun p9 w9 hst => Ops.ww rfl (X.storeS hst 0 sizeOf138 rfl rfl rfl rfl rfl (lZ rfl) rfl rfl fun w4_3 hst => Ops.ds rfl rfl<|hst.y rfl (Y.fieldAddr fa138_0 rfl)<|hst.y rfl (Y.loadA 0 isAgg103 sizeOf103 rfl rfl rfl rfl)<|Ops.ww rfl (X.allocA hst zeroValue103 fun p10 w10 hst => Ops.ww rfl (X.storeS hst 0 sizeOf103 rfl rfl rfl rfl rfl (lZ rfl) rfl rfl fun w5_3 hst => Ops.ds rfl rfl<|hst.y rfl (Y.moveS rfl)<|hst.y rfl (Y.makeFunc rfl rfl)<|Ops.ww rfl (X.retB cf125 (containsFunc_Heard hdC hdC_len (fun x : Hd => decide (x.m.from_ = l[k].m.from_)) (told p me (l.take k)) (by omega) A7 c7 126 [] [.pointer (some ⟨p10, 0, none⟩)] cf126 _ _ _ _ _ hst (Rds.rowL 2 rfl) (fun x hx w hst => told1_any x l[k].m _ _ _ _ _ _ _ _ hst 0 rfl)) rfl fun b22 w22 hb22 hst => hst.y rfl (Y.assignB rfl)<|Ops.done rfl<|W.seq rfl<|?_))))); refine W.cut [(1, .int _ _), (3, .pointer _), (7, .slice _ _ _), (9, .pointer _), (12, .slice _ _ _), (13, .int _ _), (14, .int _ _)] (fun x : Bool => [(48, .bool x)]) (fun x w => x = decide (tk p me (told p me (l.take k)) l[k]) ∧ St w0 F0 w (cellsR p10 (msgC l[k].m l[k].A l[k].cap) 103 :: cellsR p9 (hdC l[k]) 138 :: rowR (.slice A7 (told p me (l.take k)).length c7) 138 15 (told p me (l.take k)).length (flat hdC (told p me (l.take k))) :: cellsR p3 (parC p) 23 :: L) G) ⟨rfl, rfl, rfl, rfl, rfl, rfl, rfl, trivial⟩ ?_ ?_
      rotate_left
      · clear hst; rintro b48 j w7 ⟨hb48, hst⟩; cases b48
        · replace hb48 := dF hb48; refine W.condF rfl rfl<|W.skip rfl<|W.region rfl<|hst.y rfl (Y.addI rfl rfl (by omega))<|hst.y rfl (Y.moveI rfl)<|Ops.done rfl<|?_; have e2 : told p me (l.take (k + 1)) = told p me (l.take k) := by rw [told_snoc p me l k hk1]; exact if_neg hb48
          refine ⟨(k + 1, (A7, c7)), ⟨?_, rfl, trivial⟩, ⟨rfl, rfl, rfl, rfl, trivial⟩, ⟨by omega, by rw [e2]; exact (hst.dr 2)⟩, by dsimp only at *; omega⟩; rw [e2]; rfl
        · replace hb48 := dT hb48; refine W.condT rfl rfl<|W.region rfl<|hst.y rfl (Y.moveS rfl)<|hst.y rfl (Y.loadA 1 isAgg138 sizeOf138 rfl rfl rfl rfl)<|Ops.ww rfl (X.lit1 hst underlying97 sizeOf138 zeroValue138 rfl rfl rfl fun p51 w51 hst => Ops.ww rfl (X.app hst 3 0 underlying97 info138 rfl rfl rfl rfl rfl rfl rfl rfl (by unfold maxLen; omega) (by omega) fun A52 c52 w52 hst => ?_)); refine hst.y rfl (Y.assignS rfl)<|Ops.done rfl<|W.region rfl<|hst.y rfl (Y.addI rfl rfl (by omega))<|hst.y rfl (Y.moveI rfl)<|Ops.done rfl<|?_; have e2 : told p me (l.take (k + 1)) = told p me (l.take k) ++ [l[k]] := by rw [told_snoc p me l k hk1]; exact if_pos hb48
          have e3 : (told p me (l.take k) ++ [l[k]]).length = (told p me (l.take k)).length + 1 := by simp
          have e4 : flat hdC (told p me (l.take k) ++ [l[k]]) = flat hdC (told p me (l.take k)) ++ hdC l[k] := by rw [flat_append]; simp [flat]
          refine ⟨(k + 1, (A52, c52)), ⟨?_, rfl, trivial⟩, ⟨rfl, rfl, rfl, rfl, trivial⟩, ⟨by omega, by rw [e2, e3, e4]; exact (hst.dr 3)⟩, by dsimp only at *; omega⟩; rw [e2, e3]; rfl
      refine W.region rfl<|hst.y rfl (Y.fieldAddr fa103_0 rfl)<|hst.y rfl (Y.load 0 isAgg3 rfl rfl rfl)<|hst.yb rfl (Y.eql rfl rfl) (fun b25 hb25 => hst.y rfl (Y.moveB rfl)<|?_); cases b25
      · replace hb25 := dF hb25; refine Ops.nn rfl<|Ops.nn rfl<|Ops.nn rfl<|hst.y rfl (Y.pB rfl rfl)<|hst.y rfl (Y.moveB rfl)<|Ops.nn rfl<|Ops.nn rfl<|Ops.nn rfl<|Ops.nn rfl<|Ops.nn rfl<|Ops.nn rfl<|hst.y rfl (Y.pB rfl rfl)<|hst.y rfl (Y.moveB rfl)<|Ops.nn rfl<|Ops.nn rfl<|Ops.nn rfl<|Ops.nn rfl<|hst.y rfl (Y.pB rfl rfl)<|hst.y rfl (Y.moveB rfl)<|Ops.nn rfl<|Ops.nn rfl<|hst.y rfl (Y.pB rfl rfl)<|Ops.done rfl<|?_; exact ⟨_, ⟨rfl, trivial⟩, ⟨rfl, rfl, rfl, rfl, rfl, rfl, rfl, trivial⟩, (decide_eq_false (fun h => hb25 h.1)).symm, hst⟩
      · replace hb25 := dT hb25; refine hst.y rfl (Y.fieldAddr fa103_1 rfl)<|hst.y rfl (Y.load 0 isAgg3 rfl rfl rfl)<|hst.yb rfl (Y.geq rfl rfl) (fun b29 hb29 => hst.y rfl (Y.pB rfl rfl)<|hst.y rfl (Y.moveB rfl)<|?_); cases b29
        · replace hb29 := dF hb29; refine Ops.nn rfl<|Ops.nn rfl<|Ops.nn rfl<|Ops.nn rfl<|Ops.nn rfl<|Ops.nn rfl<|hst.y rfl (Y.pB rfl rfl)<|hst.y rfl (Y.moveB rfl)<|Ops.nn rfl<|Ops.nn rfl<|Ops.nn rfl<|Ops.nn rfl<|hst.y rfl (Y.pB rfl rfl)<|hst.y rfl (Y.moveB rfl)<|Ops.nn rfl<|Ops.nn rfl<|hst.y rfl (Y.pB rfl rfl)<|Ops.done rfl<|?_; exact ⟨_, ⟨rfl, trivial⟩, ⟨rfl, rfl, rfl, rfl, rfl, rfl, rfl, trivial⟩, (decide_eq_false (fun h => hb29 h.2.1)).symm, hst⟩
        · replace hb29 := dT hb29; refine hst.y rfl (Y.fieldAddr fa103_1 rfl)<|hst.y rfl (Y.load 0 isAgg3 rfl rfl rfl)<|hst.y rfl (Y.fieldAddr fa23_0 rfl)<|hst.y rfl (Y.load 3 isAgg3 rfl rfl rfl)<|hst.y rfl (Y.min2 rfl rfl)<|hst.yb rfl (Y.lss rfl rfl) (fun b37 hb37 => hst.y rfl (Y.pB rfl rfl)<|hst.y rfl (Y.moveB rfl)<|?_); cases b37
          · replace hb37 := dF hb37; refine Ops.nn rfl<|Ops.nn rfl<|Ops.nn rfl<|Ops.nn rfl<|hst.y rfl (Y.pB rfl rfl)<|hst.y rfl (Y.moveB rfl)<|Ops.nn rfl<|Ops.nn rfl<|hst.y rfl (Y.pB rfl rfl)<|Ops.done rfl<|?_; exact ⟨_, ⟨rfl, trivial⟩, ⟨rfl, rfl, rfl, rfl, rfl, rfl, rfl, trivial⟩, (decide_eq_false (fun h => hb37 h.2.2.1)).symm, hst⟩
          · replace hb37 := dT hb37; refine hst.y rfl (Y.fieldAddr fa103_1 rfl)<|hst.y rfl (Y.load 0 isAgg3 rfl rfl rfl)<|hst.y rfl (Y.moveI rfl)<|hst.yb rfl (Y.neq rfl rfl) (fun b43 hb43 => hst.y rfl (Y.pB rfl rfl)<|hst.y rfl (Y.moveB rfl)<|?_); cases b43
            · replace hb43 := dF hb43; refine Ops.nn rfl<|Ops.nn rfl<|hst.y rfl (Y.pB rfl rfl)<|Ops.done rfl<|?_; exact ⟨_, ⟨rfl, trivial⟩, ⟨rfl, rfl, rfl, rfl, rfl, rfl, rfl, trivial⟩, (decide_eq_false (fun h => hb43 h.2.2.2.1)).symm, hst⟩
            · replace hb43 := dT hb43; refine hst.y rfl (Y.moveB rfl) ?_; cases b22
              · replace hb22 := dF hb22; refine hst.y rfl (Y.not rfl)<|hst.y rfl (Y.pB rfl rfl)<|Ops.done rfl<|?_; exact ⟨_, ⟨rfl, trivial⟩, ⟨rfl, rfl, rfl, rfl, rfl, rfl, rfl, trivial⟩, (decide_eq_true ⟨hb25, hb29, hb37, hb43, hb22⟩).symm, hst⟩
              · replace hb22 := dT hb22; refine hst.y rfl (Y.not rfl)<|hst.y rfl (Y.pB rfl rfl)<|Ops.done rfl<|?_; exact ⟨_, ⟨rfl, trivial⟩, ⟨rfl, rfl, rfl, rfl, rfl, rfl, rfl, trivial⟩, (decide_eq_false (fun h => h.2.2.2.2 hb22)).symm, hst⟩
end Go.Proofs.YtaanjifekgfemaaGreat.Cl
end
section
namespace Go.Proofs.YtaanjifekgfemaaGreat.Cl
open Tryz
open Go.RowKit Go.Proofs.YtaanjifekgfemaaGreat.K Go.Proofs.YtaanjifekgfemaaGreat.W
theorem boolD (q : Bool) : Value.bool q = .bool (decide (q = true)) := by cases q <;> rfl
def TabFit (l : List (Int × Int)) : Prop := l.length ≤ 1000000 ∧ ∀ x ∈ l, In64 x.1 ∧ In64 x.2
theorem goodTab_fit {l : List (Int × Int)} (h : goodTab l) : TabFit l := by
  refine ⟨by have := h.1.1; omega, fun x hx => ?_⟩; obtain ⟨k, hk, rfl⟩ := List.getElem_of_mem hx; have h2 := h.1.2 k hk; have e : lp l k = l[k] := by simp [lp, hk]
  unfold okAt at h2; rw [e] at h2; unfold In64; omega
theorem sane_tabFit (p : Par) (s : Stt) : TabFit (sane p s).tab := by
  simp only [sane]; split
  · exact goodTab_fit (by assumption)
  · exact goodTab_fit goodTab_nil
theorem stepS_fitT (p : Par) (s : Stt) (ticks : Int) (nx : Stt) : TabFit (stepS p s ticks nx).tab := by
  rw [stepS_tab]; exact sane_tabFit p nx
structure Inp where
  ticks : Int
  heard : List Hd
  HA : Option Addr
  hcap : Nat
  ref : Bool
  reading : Int
  given : Bool
  tab : List (Int × Int)
  TA : Option Addr
  tcap : Nat
def inpC (i : Inp) : List Value := [.int .i64 i.ticks, .slice i.HA i.heard.length i.hcap, .bool i.ref, .int .i64 i.reading, .bool i.given, .slice i.TA i.tab.length i.tcap]
def sayM (p : Par) (s : Stt) (kind me : Int) (ref : Bool) (seen : Sp) : M where
  kind := kind
  from_ := me
  slo := s.lo
  shi := s.hi
  held := s.held
  hops := s.hops
  good := s.good
  ref := ref
  elo := seen.lo
  ehi := seen.hi
  pulse := if healthOf p s = 0 then 0 else pulseNo p s.time
  time := (stampS s).st
  num := (stampS s).sn
  tab := s.tab
def readOk (p : Par) (i : Inp) : Prop := seenOk p i.reading ∧ i.ref = true
instance (p : Par) (i : Inp) : Decidable (readOk p i) := by unfold readOk; infer_instance
def seenR (p : Par) (i : Inp) : Sp := if readOk p i then seen p i.reading else ⟨0, 0⟩
def spans0 (p : Par) (i : Inp) : List Sp := if readOk p i then [seen p i.reading] else []
def wayOf (p : Par) (h : Hd) : Sp := way p ⟨h.m.elo, h.m.ehi⟩ h.age
def spansF (p : Par) (acc : List Sp) (l : List Hd) : List Sp := l.foldl (fun acc h => if h.m.ref = true then acc ++ [wayOf p h] else acc) acc
theorem spansF_snoc (p : Par) (acc : List Sp) (l : List Hd) (k : Nat) (h : k < l.length) : spansF p acc (l.take (k + 1)) = if l[k].m.ref = true then spansF p acc (l.take k) ++ [wayOf p l[k]] else spansF p acc (l.take k) := by
  unfold spansF; rw [List.take_succ_eq_append_getElem h, List.foldl_append]; rfl
theorem spansF_length (p : Par) (acc : List Sp) (l : List Hd) : (spansF p acc l).length ≤ acc.length + l.length := by
  unfold spansF
  induction l generalizing acc with
  | nil => simp
  | cons x l ih =>
    simp only [List.foldl_cons, List.length_cons]; refine Nat.le_trans (ih _) ?_; split
    · simp only [List.length_append, List.length_cons, List.length_nil]; omega
    · omega
def gateSpans (p : Par) (me : Int) (i : Inp) : List Sp := spansF p (spans0 p i) (told p me i.heard)
def gate0 (p : Par) (s : Stt) (i : Inp) : Stt := { s with lo := (hold p ⟨s.lo, s.hi⟩ i.ticks).lo, hi := (hold p ⟨s.lo, s.hi⟩ i.ticks).hi, held := moreHeld s.held, hops := 0 }
def gate1 (p : Par) (me : Int) (s : Stt) (i : Inp) : Stt := if fuseOk p.F (gateSpans p me i) then { gate0 p s i with lo := (fuseV p.F (gateSpans p me i)).lo, hi := (fuseV p.F (gateSpans p me i)).hi, held := 0, good := true } else gate0 p s i
def gateNext (p : Par) (me : Int) (s : Stt) (i : Inp) : Stt := if i.given = true then { gate1 p me s i with tab := i.tab } else gate1 p me s i
theorem gate1_tab (p : Par) (me : Int) (s : Stt) (i : Inp) : (gate1 p me s i).tab = s.tab := by unfold gate1; split <;> rfl
def gateBeat (p : Par) (me : Int) (s : Stt) (i : Inp) : Stt := stepS p s i.ticks (gateNext p me s i)
def gateMsg (p : Par) (me : Int) (s : Stt) (i : Inp) : M := sayM p (gateBeat p me s i) 1 me (decide (readOk p i)) (seenR p i)
theorem stepS_n (p : Par) (s : Stt) (ticks : Int) (nx : Stt) : (stepS p s ticks nx).sn ≤ 9223372036854775806 := by
  have h : (beatS p s ticks nx).sn ≤ 1073741824 := (tick_right (mend_right s.sta (slewS p s ticks nx) (mostS p (midS p s ticks nx))) (slewS p s ticks nx)).2.2.2; unfold stepS; split
  · show (beatS p s ticks nx).sn ≤ _; omega
  · omega
end Go.Proofs.YtaanjifekgfemaaGreat.Cl
end
section
namespace Go.Proofs.YtaanjifekgfemaaGreat.Cl
open Tryz
open Go.RowKit Go.Proofs.YtaanjifekgfemaaGreat.K Go.Proofs.YtaanjifekgfemaaGreat.W
attribute [local irreducible] bound clip adds sub neg mag mulp mul maxs
theorem bd60_0_1 {S ρ ty} {parts : Array (Nat × Operand)} {x0_0 : Int} {x0_1 : Int} {x0_2 : Int} {x0_3 : Int} {x0_4 : Int} {x0_5 : Int} {x0_6 : Int} {x0_7 : Int} {x0_8 : Int} {x0_9 : Int} {x0_10 : Int} {x0_11 : Int} {x1_0_0 : Int} {x1_0_1 : Int} {x1_1 : Int} {x1_2 : Bool} {x1_3 : Int} {x1_4 : Int} {x1_5 : Bool} {x1_6a : Option Addr} {x1_6l x1_6c : Nat} {x1_7_0 : Int} {x1_7_1 : Int} {x1_8 : Int} (hp : (parts.toList.map fun x => (x.1, ev ρ x.2)) = [(0, .agg #[Value.int .i64 x0_0, Value.int .i64 x0_1, Value.int .i64 x0_2, Value.int .i64 x0_3, Value.int .i64 x0_4, Value.int .i64 x0_5, Value.int .i64 x0_6, Value.int .i64 x0_7, Value.int .i64 x0_8, Value.int .i64 x0_9, Value.int .i64 x0_10, Value.int .i64 x0_11]), (1, .agg #[Value.int .i64 x1_0_0, Value.int .i64 x1_0_1, Value.int .i64 x1_1, Value.bool x1_2, Value.int .i64 x1_3, Value.int .i64 x1_4, Value.bool x1_5, Value.slice x1_6a x1_6l x1_6c, Value.int .i64 x1_7_0, Value.int .i64 x1_7_1, Value.int .i64 x1_8])]) : Y Tryz.prog S ρ (.build 60 parts) ty (.agg #[Value.int .i64 x0_0, Value.int .i64 x0_1, Value.int .i64 x0_2, Value.int .i64 x0_3, Value.int .i64 x0_4, Value.int .i64 x0_5, Value.int .i64 x0_6, Value.int .i64 x0_7, Value.int .i64 x0_8, Value.int .i64 x0_9, Value.int .i64 x0_10, Value.int .i64 x0_11, Value.int .i64 x1_0_0, Value.int .i64 x1_0_1, Value.int .i64 x1_1, Value.bool x1_2, Value.int .i64 x1_3, Value.int .i64 x1_4, Value.bool x1_5, Value.slice x1_6a x1_6l x1_6c, Value.int .i64 x1_7_0, Value.int .i64 x1_7_1, Value.int .i64 x1_8]) :=
  Y.build hp fun w => by simp [Instr.build, go_sem]
theorem bd103_ {S ρ ty} {parts : Array (Nat × Operand)}  (hp : (parts.toList.map fun x => (x.1, ev ρ x.2)) = []) : Y Tryz.prog S ρ (.build 103 parts) ty (.agg #[Value.int .i64 0, Value.int .i64 0, Value.int .i64 0, Value.int .i64 0, Value.int .i64 0, Value.int .i64 0, Value.bool false, Value.bool false, Value.int .i64 0, Value.int .i64 0, Value.int .i64 0, Value.int .i64 0, Value.int .i64 0, Value.slice none 0 0]) :=
  Y.build hp fun w => by simp [Instr.build, go_sem]
theorem bd103_0_1_2_3_4_5_6_7_8_9_10 {S ρ ty} {parts : Array (Nat × Operand)} {x0 : Int} {x1 : Int} {x2_0 : Int} {x2_1 : Int} {x3 : Int} {x4 : Int} {x5 : Bool} {x6 : Bool} {x7_0 : Int} {x7_1 : Int} {x8 : Int} {x9_0 : Int} {x9_1 : Int} {x10a : Option Addr} {x10l x10c : Nat} (hp : (parts.toList.map fun x => (x.1, ev ρ x.2)) = [(0, Value.int .i64 x0), (1, Value.int .i64 x1), (2, .agg #[Value.int .i64 x2_0, Value.int .i64 x2_1]), (3, Value.int .i64 x3), (4, Value.int .i64 x4), (5, Value.bool x5), (6, Value.bool x6), (7, .agg #[Value.int .i64 x7_0, Value.int .i64 x7_1]), (8, Value.int .i64 x8), (9, .agg #[Value.int .i64 x9_0, Value.int .i64 x9_1]), (10, Value.slice x10a x10l x10c)]) : Y Tryz.prog S ρ (.build 103 parts) ty (.agg #[Value.int .i64 x0, Value.int .i64 x1, Value.int .i64 x2_0, Value.int .i64 x2_1, Value.int .i64 x3, Value.int .i64 x4, Value.bool x5, Value.bool x6, Value.int .i64 x7_0, Value.int .i64 x7_1, Value.int .i64 x8, Value.int .i64 x9_0, Value.int .i64 x9_1, Value.slice x10a x10l x10c]) :=
  Y.build hp fun w => by simp [Instr.build, go_sem]
theorem bd153_0_1 {S ρ ty} {parts : Array (Nat × Operand)} {x0_0_0 : Int} {x0_0_1 : Int} {x0_0_2 : Int} {x0_0_3 : Int} {x0_0_4 : Int} {x0_0_5 : Int} {x0_0_6 : Int} {x0_0_7 : Int} {x0_0_8 : Int} {x0_0_9 : Int} {x0_0_10 : Int} {x0_0_11 : Int} {x0_1_0_0 : Int} {x0_1_0_1 : Int} {x0_1_1 : Int} {x0_1_2 : Bool} {x0_1_3 : Int} {x0_1_4 : Int} {x0_1_5 : Bool} {x0_1_6a : Option Addr} {x0_1_6l x0_1_6c : Nat} {x0_1_7_0 : Int} {x0_1_7_1 : Int} {x0_1_8 : Int} {x1 : Int} (hp : (parts.toList.map fun x => (x.1, ev ρ x.2)) = [(0, .agg #[Value.int .i64 x0_0_0, Value.int .i64 x0_0_1, Value.int .i64 x0_0_2, Value.int .i64 x0_0_3, Value.int .i64 x0_0_4, Value.int .i64 x0_0_5, Value.int .i64 x0_0_6, Value.int .i64 x0_0_7, Value.int .i64 x0_0_8, Value.int .i64 x0_0_9, Value.int .i64 x0_0_10, Value.int .i64 x0_0_11, Value.int .i64 x0_1_0_0, Value.int .i64 x0_1_0_1, Value.int .i64 x0_1_1, Value.bool x0_1_2, Value.int .i64 x0_1_3, Value.int .i64 x0_1_4, Value.bool x0_1_5, Value.slice x0_1_6a x0_1_6l x0_1_6c, Value.int .i64 x0_1_7_0, Value.int .i64 x0_1_7_1, Value.int .i64 x0_1_8]), (1, Value.int .i64 x1)]) : Y Tryz.prog S ρ (.build 153 parts) ty (.agg #[Value.int .i64 x0_0_0, Value.int .i64 x0_0_1, Value.int .i64 x0_0_2, Value.int .i64 x0_0_3, Value.int .i64 x0_0_4, Value.int .i64 x0_0_5, Value.int .i64 x0_0_6, Value.int .i64 x0_0_7, Value.int .i64 x0_0_8, Value.int .i64 x0_0_9, Value.int .i64 x0_0_10, Value.int .i64 x0_0_11, Value.int .i64 x0_1_0_0, Value.int .i64 x0_1_0_1, Value.int .i64 x0_1_1, Value.bool x0_1_2, Value.int .i64 x0_1_3, Value.int .i64 x0_1_4, Value.bool x0_1_5, Value.slice x0_1_6a x0_1_6l x0_1_6c, Value.int .i64 x0_1_7_0, Value.int .i64 x0_1_7_1, Value.int .i64 x0_1_8, Value.int .i64 x1]) :=
  Y.build hp fun w => by simp [Instr.build, go_sem]
theorem fa99_0 : FA 99 0 0 := fun _ _ => by simp [Instr.fieldAt, Instr.sureAddr, go_sem]
theorem fa99_1 : FA 99 1 1 := fun _ _ => by simp [Instr.fieldAt, Instr.sureAddr, go_sem]
theorem fa99_2 : FA 99 2 2 := fun _ _ => by simp [Instr.fieldAt, Instr.sureAddr, go_sem]
theorem fa99_3 : FA 99 3 3 := fun _ _ => by simp [Instr.fieldAt, Instr.sureAddr, go_sem]
theorem fa99_4 : FA 99 4 4 := fun _ _ => by simp [Instr.fieldAt, Instr.sureAddr, go_sem]
theorem fa99_5 : FA 99 5 5 := fun _ _ => by simp [Instr.fieldAt, Instr.sureAddr, go_sem]
theorem fa103_6 : FA 103 6 7 := fun _ _ => by simp [Instr.fieldAt, Instr.sureAddr, go_sem]
theorem fa103_7 : FA 103 7 8 := fun _ _ => by simp [Instr.fieldAt, Instr.sureAddr, go_sem]
theorem fa138_1 : FA 138 1 14 := fun _ _ => by simp [Instr.fieldAt, Instr.sureAddr, go_sem]
theorem fa153_0 : FA 153 0 0 := fun _ _ => by simp [Instr.fieldAt, Instr.sureAddr, go_sem]
theorem fa153_1 : FA 153 1 23 := fun _ _ => by simp [Instr.fieldAt, Instr.sureAddr, go_sem]
theorem cf19 : CF 19 := fun _ _ => by simp [go_sem]
theorem cf117 : CF 117 := fun _ _ => by simp [go_sem]
theorem cf118 : CF 118 := fun _ _ => by simp [go_sem]
theorem cf119 : CF 119 := fun _ _ => by simp [go_sem]
theorem cf120 : CF 120 := fun _ _ => by simp [go_sem]
theorem cf122 : CF 122 := fun _ _ => by simp [go_sem]
theorem cf123 : CF 123 := fun _ _ => by simp [go_sem]
theorem cf124 : CF 124 := fun _ _ => by simp [go_sem]
theorem cf137 : CF 137 := fun _ _ => by simp [go_sem]
theorem info53 : (Tryz.prog.info? 53).map (fun i => (i.zero, i.size, i.bytes)) = some (some (.agg #[Value.int .i64 0, Value.int .i64 0]), 2, 16) := by kernel_rfl
theorem say_any (b : Nat) (T : TypeId) (p : Par) (s : Stt) (A : Option Addr) (cap : Nat) (rest : List Value) (kind me : Int) (ref : Bool) (elo ehi : Int) (hT : TabFit s.tab) (hn : s.sn ≤ 9223372036854775806) (w0 w : World) (F0 : List Nat) (L G : List Res) (hst : St w0 F0 w (frR b T p s A cap rest :: L) G) (hr : Rds [] G (.slice A (s.tab).length cap) (s.tab).length (lcs (s.tab))) :
    Calls Tryz.prog 124 #[.pointer (some ⟨b, 0, none⟩), .int .i64 kind, .int .i64 me, .bool ref, .agg #[.int .i64 elo, .int .i64 ehi]] w fun e w' => ∃ A' c', e = .returned (.agg (msgC (sayM p s kind me ref ⟨elo, ehi⟩) A' c').toArray) ∧ St w0 F0 w' (frR b T p (stampS s) A cap rest :: L) (rowR (.slice A' (s.tab).length c') 114 2 (s.tab).length (lcs (s.tab)) :: G) := by
  refine W.func func124 rfl ntmps124 rfl<|W.sr rfl<|Ops.ww rfl (X.boxA hst rfl fun p9 w9 hst => Ops.ww rfl (X.allocA hst zeroValue103 fun p10 w10 hst => Ops.done rfl<|W.seq rfl<|W.sr rfl<|hst.y rfl (Y.moveP rfl)<|hst.y rfl (Y.isNil underlying50 rfl rfl)<|Ops.done rfl<|W.condF rfl rfl<|W.skip rfl<|W.sr rfl<|hst.y rfl (Y.moveP rfl)<|Ops.ww rfl (X.call cf19 rfl<|?_))); refine use_call (pulse_any b T p s A cap rest _ _ _ _ _ hst.up_2) rfl ?_; clear hst; rintro e w21 ⟨⟨n21, rfl, hn21⟩, hst⟩; subst hn21; replace hst := hst.dn2; refine ⟨_, rfl, ?_⟩; refine hst.y rfl (Y.moveU rfl)<|hst.y rfl (Y.extract rfl rfl)<|hst.y rfl (Y.extract rfl rfl)<|hst.y rfl (Y.assignI rfl)<|hst.y rfl (Y.assignI rfl)<|Ops.ds rfl rfl<|hst.y rfl (Y.moveP rfl)<|Ops.ww rfl (X.ret cf137 (dn2 (stamp_any b T p s A cap rest _ _ _ _ _ hst.up_2 hn)) rfl fun w26 hst => hst.y rfl (Y.moveU rfl)<|hst.y rfl (Y.extract rfl rfl)<|hst.y rfl (Y.extract rfl rfl)<|Ops.ww rfl (X.allocA hst zeroValue55 fun p13 w13 hst => Ops.ww rfl (X.storeS hst 0 sizeOf55 rfl rfl rfl rfl rfl (lZ rfl) rfl rfl fun w4_6 hst => hst.y rfl (Y.assignI rfl)<|Ops.ds rfl rfl<|hst.y rfl (Y.moveP rfl)<|hst.y rfl (Y.nilCheck rfl)<|hst.y rfl (Y.fieldAddr fa60_1 rfl)<|hst.y rfl (Y.loadA 3 isAgg57 sizeOf57 rfl rfl rfl rfl)<|Ops.ww rfl (X.allocA hst zeroValue57 fun p15 w15 hst => Ops.ww rfl (X.storeS hst 0 sizeOf57 rfl rfl rfl rfl rfl (lZ rfl) rfl rfl fun w5_5 hst => Ops.done rfl<|W.seq rfl<|W.drawn rfl (by kernel_rfl) (Ctx _ _ (_) (_)) [18] (.op 0 0 (.op 1 0 (.op 2 0 (.op 3 0 (.op 4 0 (.op 5 0 (.op 6 0 (.op 7 0 (.op 8 0 (.op 9 0 (.op 10 0 (.op 11 0 (.op 12 0 (.op 13 0 (.op 14 0 (.op 15 0 (.op 16 1 (.op 17 0 (.op 18 1 .nil))))))))))))))))))) rfl (by kernel_rfl) hst.drew.ctx<|?_))))); replace hst := hst.drew; generalize World.drew _ = wd at hst ⊢; refine hst.z rfl (Y.moveI rfl)<|hst.z rfl (Y.moveI rfl)<|hst.z rfl (Y.fieldAddr fa57_0 rfl)<|hst.z rfl (Y.loadA 0 isAgg53 sizeOf53 rfl rfl rfl rfl)<|hst.z rfl (Y.fieldAddr fa57_3 rfl)<|hst.z rfl (Y.load 0 isAgg3 rfl rfl rfl)<|hst.z rfl (Y.fieldAddr fa57_4 rfl)<|hst.z rfl (Y.load 0 isAgg3 rfl rfl rfl)<|hst.z rfl (Y.fieldAddr fa57_5 rfl)<|hst.z rfl (Y.load 0 isAgg4 rfl rfl rfl)<|hst.z rfl (Y.moveB rfl)<|hst.z rfl (Y.loadA 3 isAgg53 sizeOf53 rfl rfl rfl rfl)<|hst.z rfl (Y.moveI rfl)<|hst.z rfl (Y.loadA 1 isAgg55 sizeOf55 rfl rfl rfl rfl)<|hst.z rfl (Y.fieldAddr fa57_6 rfl)<|hst.z rfl (Y.load 0 isAgg41 rfl rfl rfl)<|Drw.ww rfl (X.call cf40 rfl<|?_); refine use_call (clone_any _ _ s.tab hT.1 _ _ _ _ _ hst hr.hd) rfl ?_; clear hst; rintro e w49 ⟨A49, c49, rfl, hst⟩; refine ⟨_, rfl, ⟨(hst.cxg 0 1), ?_⟩⟩; refine Drw.q rfl (hst.cxg 0 1) (bd103_0_1_2_3_4_5_6_7_8_9_10 rfl)<|Drw.z rfl rfl rfl rfl (X.storeS hst 2 sizeOf103 rfl rfl rfl rfl rfl (lZ rfl) rfl rfl fun w6_18 hst => Drw.done<|W.ret rfl<|⟨_, Rslt.cell results124 rfl (res_at isAgg103 sizeOf103 2 hst rfl rfl), ?_⟩); exact ⟨A49, c49, rfl, (hst.dr 4)⟩
theorem gnew_any (p : Par) (me : Int) (s : Stt) (A : Option Addr) (cap : Nat) (hT : TabFit s.tab) (w0 w : World) (F0 : List Nat) (L G : List Res) (hst : St w0 F0 w L G) (hr : Rds [] G (.slice A (s.tab).length cap) (s.tab).length (lcs (s.tab))) :
    Calls Tryz.prog 72 #[.agg #[.int .i64 p.N, .int .i64 p.F, .int .i64 p.D, .int .i64 p.Beat, .int .i64 p.Rho, .int .i64 p.Delay, .int .i64 p.Jitter, .int .i64 p.Eps, .int .i64 p.Mu, .int .i64 p.Hold, .int .i64 p.Pulse, .int .i64 p.Second], .int .i64 me, .agg #[.int .i64 s.lo, .int .i64 s.hi, .int .i64 s.time, .bool s.set, .int .i64 s.held, .int .i64 s.hops, .bool s.good, .slice A s.tab.length cap, .int .i64 s.st, .int .i64 s.sn, .int .i64 s.life]] w fun e w' => ∃ b A' c', e = .returned (.pointer (some ⟨b, 0, none⟩)) ∧ St w0 F0 w' (frR b 153 p (sane p s) A' c' [.int .i64 me] :: L) (rowR (.slice A' ((sane p s).tab).length c') 114 2 ((sane p s).tab).length (lcs ((sane p s).tab)) :: G) := by
  refine W.func func72 rfl ntmps72 rfl<|W.sr rfl<|Ops.ww rfl (X.boxA hst rfl fun p3 w3 hst => Ops.ww rfl (X.boxA hst rfl fun p5 w5 hst => hst.y rfl (Y.assignP rfl)<|Ops.done rfl<|W.seq rfl<|W.drawn rfl (by kernel_rfl) (Ctx _ _ (_) (_)) [] (.op 0 0 (.op 1 0 (.op 2 0 (.op 5 0 (.op 3 1 (.op 4 0 (.op 6 0 (.op 7 1 (.op 8 0 .nil))))))))) rfl (by kernel_rfl) hst.drew.ctx<|?_)); replace hst := hst.drew; generalize World.drew _ = wd at hst ⊢; refine hst.z rfl (Y.loadA 1 isAgg23 sizeOf23 rfl rfl rfl rfl)<|hst.z rfl (Y.loadA 1 isAgg23 sizeOf23 rfl rfl rfl rfl)<|hst.z rfl (Y.loadA 0 isAgg57 sizeOf57 rfl rfl rfl rfl)<|hst.z rfl (Y.moveI rfl)<|Drw.ww rfl (X.call cf12 rfl<|?_); refine use_call (sane_any p s _ _ hT.1 hT.2 _ _ _ _ _ hst hr) rfl ?_; clear hst; rintro e w10 ⟨A10, c10, rfl, hst⟩; refine ⟨_, rfl, ⟨(hst.cxg 0 1), ?_⟩⟩; refine Drw.q rfl (hst.cxg 0 1) (bd60_0_1 rfl)<|Drw.q rfl (hst.cxg 0 1) (bd153_0_1 rfl)<|Drw.ww rfl (X.boxA hst rfl fun p14 w14 hst => ⟨(hst.cxg 1 1), Drw.q rfl (hst.cxg 1 1) (Y.assignP rfl)<|Drw.done<|W.ret rfl<|⟨_, Rslt.one results72 rfl, ?_⟩⟩); exact ⟨p14, A10, c10, rfl, (hst.sub (.cons_cons _ (.cons _ (.cons _ (.refl _)))))⟩
set_option maxHeartbeats 2000000 in
theorem gbeat_any (b : Nat) (T : TypeId) (p : Par) (me : Int) (s : Stt) (A : Option Addr) (cap : Nat) (i : Inp) (hT : TabFit s.tab) (hiT : TabFit i.tab) (hl : i.heard.length ≤ 1000000) (hasc : Asc i.heard) (w0 w : World) (F0 : List Nat) (L G : List Res) (hst : St w0 F0 w (frR b T p s A cap [.int .i64 me] :: L) G)
    (hrS : Rds [] G (.slice A (s.tab).length cap) (s.tab).length (lcs (s.tab))) (hrI : Rds [] G (.slice i.TA (i.tab).length i.tcap) (i.tab).length (lcs (i.tab))) (hrH : Rds [] G (.slice i.HA i.heard.length i.hcap) i.heard.length (flat hdC i.heard)) :
    Calls Tryz.prog 116 #[.pointer (some ⟨b, 0, none⟩), .agg (inpC i).toArray] w fun e w' => ∃ A' c' A2 c2 G', e = .returned (.agg (msgC (gateMsg p me s i) A2 c2).toArray) ∧ (∀ r ∈ G, r ∈ G') ∧ Rds [] G' (.slice A' ((gateBeat p me s i).tab).length c') ((gateBeat p me s i).tab).length (lcs ((gateBeat p me s i).tab)) ∧ Rds [] G' (.slice A2 ((gateMsg p me s i).tab).length c2) ((gateMsg p me s i).tab).length (lcs ((gateMsg p me s i).tab)) ∧ St w0 F0 w' (frR b T p (stampS (gateBeat p me s i)) A' c' [.int .i64 me] :: L) G' := by
  have hnt : TabFit (gateNext p me s i).tab := by
    unfold gateNext; split
    · exact hiT
    · rw [gate1_tab]; exact hT
  have hbt : TabFit (gateBeat p me s i).tab := stepS_fitT p s i.ticks _; have h16 := told_length (p := p) (me := me) hasc; have hs0 : (spans0 p i).length ≤ 1 := by unfold spans0; split <;> simp
  have hgl : (spansF p (spans0 p i) ((told p me i.heard).take (told p me i.heard).length)).length ≤ 1000000 := by have := spansF_length p (spans0 p i) ((told p me i.heard).take (told p me i.heard).length); rw [List.length_take] at this; omega
  refine W.func func116 rfl ntmps116 rfl<|W.sr rfl<|Ops.ww rfl (X.boxA hst rfl fun p3 w3 hst => Ops.ww rfl (X.allocA hst zeroValue103 fun p4 w4 hst => Ops.done rfl<|W.seq rfl<|W.sr rfl<|hst.y rfl (Y.moveP rfl)<|hst.y rfl (Y.isNil underlying150 rfl rfl)<|Ops.done rfl<|W.condF rfl rfl<|W.skip rfl<|W.sr rfl<|hst.y rfl (Y.moveP rfl)<|hst.y rfl (Y.nilCheck rfl)<|hst.y rfl (Y.fieldAddr fa153_0 rfl)<|hst.y rfl (Y.fieldAddr fa60_0 rfl)<|hst.y rfl (Y.loadA 2 isAgg23 sizeOf23 rfl rfl rfl rfl)<|Ops.ww rfl (X.allocA hst zeroValue23 fun p5 w5 hst => Ops.ww rfl (X.storeS hst 0 sizeOf23 rfl rfl rfl rfl rfl (lZ rfl) rfl rfl fun w3_6 hst => Ops.ds rfl rfl<|hst.y rfl (Y.loadA 0 isAgg23 sizeOf23 rfl rfl rfl rfl)<|hst.y rfl (Y.fieldAddr fa99_3 rfl)<|hst.y rfl (Y.load 2 isAgg3 rfl rfl rfl)<|Ops.ww rfl (X.call cf117 rfl<|?_))))); refine use_call (seen_any p _ _ _ _ _ _ hst) rfl ?_; clear hst; rintro e w26 ⟨b26, rfl, hb26, hst⟩; refine ⟨_, rfl, ?_⟩; refine hst.y rfl (Y.moveU rfl)<|hst.y rfl (Y.extract rfl rfl)<|hst.y rfl (Y.extract rfl rfl)<|Ops.ww rfl (X.allocA hst zeroValue53 fun p6 w6 hst => Ops.ww rfl (X.storeS hst 0 sizeOf53 rfl rfl rfl rfl rfl (lZ rfl) rfl rfl fun w4_8 hst => hst.y rfl (Y.assignB rfl)<|Ops.done rfl<|W.seq rfl<|?_)); refine W.cut [(0, .pointer _), (3, .pointer _), (4, .pointer _), (5, .pointer _), (6, .pointer _)] (fun x : Bool => [(7, .bool x)]) (fun x w => x = decide (readOk p i) ∧ St w0 F0 w (cellsR p6 (spC (seen p i.reading)) 53 :: cellsR p5 (parC p) 23 :: cellsR p4 ([.int .i64 0, .int .i64 0, .int .i64 0, .int .i64 0, .int .i64 0, .int .i64 0, .bool false, .bool false, .int .i64 0, .int .i64 0, .int .i64 0, .int .i64 0, .int .i64 0, .slice none 0 0]) 103 :: cellsR p3 (inpC i) 99 :: frR b T p s A cap [.int .i64 me] :: L) G) ⟨rfl, rfl, rfl, rfl, rfl, trivial⟩ ?_ ?_
  rotate_left
  · clear hst; rintro b7 j w7 ⟨hb7, hst⟩; refine W.sr rfl<|?_; replace hst := hst.nilRow 53 2; refine hst.y rfl (Y.assignS rfl)<|Ops.done rfl<|W.seq rfl<|?_; refine W.cut [(0, .pointer _), (3, .pointer _), (4, .pointer _), (5, .pointer _), (6, .pointer _), (7, .bool _)] (fun x : Option Addr × Nat => [(8, .slice x.1 (spans0 p i).length x.2)]) (fun x w => St w0 F0 w (rowR (.slice x.1 (spans0 p i).length x.2) 53 2 (spans0 p i).length (flat spC (spans0 p i)) :: cellsR p6 (spC (seenR p i)) 53 :: cellsR p5 (parC p) 23 :: cellsR p4 ([.int .i64 0, .int .i64 0, .int .i64 0, .int .i64 0, .int .i64 0, .int .i64 0, .bool false, .bool false, .int .i64 0, .int .i64 0, .int .i64 0, .int .i64 0, .int .i64 0, .slice none 0 0]) 103 :: cellsR p3 (inpC i) 99 :: frR b T p s A cap [.int .i64 me] :: L) G) ⟨rfl, rfl, rfl, rfl, rfl, rfl, trivial⟩ ?_ ?_
    rotate_left
    · clear hst; rintro ⟨A8, c8⟩ j w8 hst; refine W.seq rfl<|W.seq rfl<|W.drawn rfl (by kernel_rfl) (Ctx _ _ (_) (_)) [] (.op 0 0 (.op 1 0 (.op 2 0 (.op 3 0 (.op 4 0 (.op 5 0 (.op 6 0 (.op 9 0 (.op 7 1 (.op 8 0 .nil)))))))))) rfl (by kernel_rfl) hst.drew.ctx<|?_; replace hst := hst.drew; generalize World.drew _ = wd at hst ⊢; refine hst.z rfl (Y.loadA 2 isAgg23 sizeOf23 rfl rfl rfl rfl)<|hst.z rfl (Y.moveP rfl)<|hst.z rfl (Y.nilCheck rfl)<|hst.z rfl (Y.fieldAddr fa153_1 rfl)<|hst.z rfl (Y.load 5 isAgg3 rfl rfl rfl)<|hst.z rfl (Y.fieldAddr fa99_1 rfl)<|hst.z rfl (Y.load 4 isAgg97 rfl rfl rfl)<|hst.z rfl (Y.moveI rfl)<|Drw.ww rfl (X.call cf118 rfl<|?_); refine use_call (told_any p me i.heard hl hasc _ _ _ _ _ _ _ hst hrH.hd) rfl ?_; clear hst; rintro e w47 ⟨A47, c47, rfl, hst⟩; refine ⟨_, rfl, ⟨(hst.cx 1), ?_⟩⟩; refine Drw.q rfl (hst.cx 1) (Y.lenS underlying97 rfl)<|Drw.done<|W.block rfl<|?_; refine W.loop (γ := Nat × (Option Addr × Nat)) [(0, .pointer _), (3, .pointer _), (4, .pointer _), (5, .pointer _), (6, .pointer _), (7, .bool _), (47, .slice _ _ _), (48, .int _ _)] (fun x => [(8, .slice x.2.1 (spansF p (spans0 p i) ((told p me i.heard).take x.1)).length x.2.2), (49, .int .i64 (x.1 : Int))]) (fun x w => x.1 ≤ (told p me i.heard).length ∧ St w0 F0 w (rowR (.slice A47 (told p me i.heard).length c47) 138 15 (told p me i.heard).length (flat hdC (told p me i.heard)) :: rowR (.slice x.2.1 (spansF p (spans0 p i) ((told p me i.heard).take x.1)).length x.2.2) 53 2 (spansF p (spans0 p i) ((told p me i.heard).take x.1)).length (flat spC (spansF p (spans0 p i) ((told p me i.heard).take x.1))) :: cellsR p6 (spC (seenR p i)) 53 :: cellsR p5 (parC p) 23 :: cellsR p4 ([.int .i64 0, .int .i64 0, .int .i64 0, .int .i64 0, .int .i64 0, .int .i64 0, .bool false, .bool false, .int .i64 0, .int .i64 0, .int .i64 0, .int .i64 0, .int .i64 0, .slice none 0 0]) 103 :: cellsR p3 (inpC i) 99 :: frR b T p s A cap [.int .i64 me] :: L) G) (fun x => (told p me i.heard).length - x.1) ((0, (A8, c8))) rfl ⟨rfl, rfl, rfl, rfl, rfl, rfl, rfl, rfl, trivial⟩ ?_ ?_ ?_
      · exact ⟨rfl, rfl, trivial⟩
      · exact ⟨by omega, hst⟩
      · clear hst; rintro ⟨k, ⟨A8, c8⟩⟩ j w11 ⟨hk, hst⟩; refine W.sr rfl<|hst.yb rfl (Y.lss rfl rfl) (fun b50 hb50 => Ops.done rfl<|W.seq rfl<|?_); cases b50
        · replace hb50 := dF hb50; refine W.condF rfl rfl<|W.exit rfl<|W.seq rfl<|?_; obtain rfl : k = (told p me i.heard).length := by omega
          have e1 : spansF p (spans0 p i) ((told p me i.heard).take (told p me i.heard).length) = gateSpans p me i := by rw [List.take_length]; rfl
          refine W.region rfl<|hst.y rfl (Y.moveP rfl)<|hst.y rfl (Y.nilCheck rfl)<|hst.y rfl (Y.fieldAddr fa153_0 rfl)<|hst.y rfl (Y.fieldAddr fa60_1 rfl)<|hst.y rfl (Y.loadA 6 isAgg57 sizeOf57 rfl rfl rfl rfl)<|Ops.ww rfl (X.allocA hst zeroValue57 fun p11 w11 hst => Ops.ww rfl (X.storeS hst 0 sizeOf57 rfl rfl rfl rfl rfl (lZ rfl) rfl rfl fun w16_6 hst => Ops.done rfl<|W.seq rfl<|W.drawn rfl (by kernel_rfl) (Ctx _ _ (_) (_)) [18, 19, 20, 21, 22] (.op 0 0 (.op 1 0 (.op 2 0 (.op 3 0 (.op 4 0 (.op 5 0 (.op 6 0 (.op 7 0 (.op 8 0 (.op 10 0 (.op 11 0 (.op 12 0 (.op 13 0 (.op 14 0 (.op 15 0 (.op 9 1 (.op 17 0 (.op 16 1 (.op 18 1 (.op 19 1 (.op 20 1 (.op 21 1 (.op 22 1 .nil))))))))))))))))))))))) rfl (by kernel_rfl) hst.drew.ctx<|?_)); replace hst := hst.drew; generalize World.drew _ = wd at hst ⊢; refine hst.z rfl (Y.loadA 4 isAgg23 sizeOf23 rfl rfl rfl rfl)<|hst.z rfl (Y.moveP rfl)<|hst.z rfl (Y.nilCheck rfl)<|hst.z rfl (Y.fieldAddr fa153_0 rfl)<|hst.z rfl (Y.fieldAddr fa60_1 rfl)<|hst.z rfl (Y.fieldAddr fa57_0 rfl)<|hst.z rfl (Y.loadA 7 isAgg53 sizeOf53 rfl rfl rfl rfl)<|hst.z rfl (Y.fieldAddr fa99_0 rfl)<|hst.z rfl (Y.load 6 isAgg3 rfl rfl rfl)<|hst.z rfl (Y.moveP rfl)<|hst.z rfl (Y.nilCheck rfl)<|hst.z rfl (Y.fieldAddr fa153_0 rfl)<|hst.z rfl (Y.fieldAddr fa60_1 rfl)<|hst.z rfl (Y.fieldAddr fa57_3 rfl)<|hst.z rfl (Y.load 7 isAgg3 rfl rfl rfl)<|Drw.ww rfl (X.ret cf120 (hold_any p _ _ _ _ _ _ _ _ hst ) rfl fun w81 hst => ⟨hst.ctx, hst.z rfl (Y.fieldAddr fa57_0 rfl)<|Drw.ww rfl (X.ret cf121 (more_any _ _ _ _ _ _ hst ) rfl fun w88 hst => ⟨hst.ctx, Drw.z rfl rfl rfl rfl (X.storeS hst 0 sizeOf53 rfl rfl rfl rfl rfl (lZ rfl) rfl rfl fun w17_18 hst => Drw.zy rfl rfl rfl rfl hst.ctx (Y.fieldAddr fa57_3 rfl)<|Drw.z rfl rfl rfl rfl (X.storeV hst 0 (.int _ _) sizeOf3 rfl rfl rfl rfl (lZ rfl) rfl rfl fun w17_20 hst => Drw.zy rfl rfl rfl rfl hst.ctx (Y.fieldAddr fa57_4 rfl)<|Drw.z rfl rfl rfl rfl (X.storeV hst 0 (.int _ _) sizeOf3 rfl rfl rfl rfl (lZ rfl) rfl rfl fun w17_22 hst => Drw.done<|W.seq rfl<|W.sr rfl<|hst.y rfl (Y.loadA 4 isAgg23 sizeOf23 rfl rfl rfl rfl)<|hst.y rfl (Y.moveS rfl)<|Ops.ww rfl (X.call cf122 rfl<|?_))))⟩)⟩); refine use_call (afuse_any p (spansF p (spans0 p i) ((told p me i.heard).take (told p me i.heard).length)) hgl A8 c8 _ _ _ _ _ hst (Rds.rowL 2 rfl)) rfl ?_; clear hst; rintro e w95 ⟨b97, rfl, hb97, hst⟩; refine ⟨_, rfl, ?_⟩; refine hst.y rfl (Y.moveU rfl)<|hst.y rfl (Y.extract rfl rfl)<|hst.y rfl (Y.extract rfl rfl)<|Ops.ww rfl (X.allocA hst zeroValue53 fun p12 w12 hst => Ops.ww rfl (X.storeS hst 0 sizeOf53 rfl rfl rfl rfl rfl (lZ rfl) rfl rfl fun w18_7 hst => hst.y rfl (Y.assignB rfl)<|Ops.done rfl<|?_)); refine W.cut [(0, .pointer _), (3, .pointer _), (4, .pointer _), (6, .pointer _), (7, .bool _), (11, .pointer _)] (fun _ : Unit => []) (fun _ w => St w0 F0 w (cellsR p11 (sttC (gate1 p me s i) A cap) 57 :: cellsR p6 (spC (seenR p i)) 53 :: cellsR p5 (parC p) 23 :: cellsR p4 ([.int .i64 0, .int .i64 0, .int .i64 0, .int .i64 0, .int .i64 0, .int .i64 0, .bool false, .bool false, .int .i64 0, .int .i64 0, .int .i64 0, .int .i64 0, .int .i64 0, .slice none 0 0]) 103 :: cellsR p3 (inpC i) 99 :: frR b T p s A cap [.int .i64 me] :: L) G) ⟨rfl, rfl, rfl, rfl, rfl, rfl, trivial⟩ ?_ ?_
          rotate_left
          · clear hst; rintro _ j w19 hst; refine W.seq rfl ?_; refine W.cut [(0, .pointer _), (3, .pointer _), (4, .pointer _), (6, .pointer _), (7, .bool _), (11, .pointer _)] (fun _ : Option Addr × Nat => []) (fun x w => Rds [] G (.slice x.1 ((gateNext p me s i).tab).length x.2) ((gateNext p me s i).tab).length (lcs ((gateNext p me s i).tab)) ∧ St w0 F0 w (cellsR p11 (sttC (gateNext p me s i) x.1 x.2) 57 :: cellsR p6 (spC (seenR p i)) 53 :: cellsR p5 (parC p) 23 :: cellsR p4 ([.int .i64 0, .int .i64 0, .int .i64 0, .int .i64 0, .int .i64 0, .int .i64 0, .bool false, .bool false, .int .i64 0, .int .i64 0, .int .i64 0, .int .i64 0, .int .i64 0, .slice none 0 0]) 103 :: cellsR p3 (inpC i) 99 :: frR b T p s A cap [.int .i64 me] :: L) G) ⟨rfl, rfl, rfl, rfl, rfl, rfl, trivial⟩ ?_ ?_
            rotate_left
            · clear hst; rintro ⟨A9, c9⟩ j w21 ⟨hr9, hst⟩; refine W.seq rfl<|W.drawn rfl (by kernel_rfl) (Ctx _ _ (_) (_)) [6] (.op 0 0 (.op 1 0 (.op 2 0 (.op 3 0 (.op 4 0 (.op 5 0 (.op 6 1 .nil))))))) rfl (by kernel_rfl) hst.drew.ctx<|?_; replace hst := hst.drew; generalize World.drew _ = wd at hst ⊢; refine hst.z rfl (Y.moveP rfl)<|hst.z rfl (Y.nilCheck rfl)<|hst.z rfl (Y.fieldAddr fa153_0 rfl)<|hst.z rfl (Y.fieldAddr fa99_0 rfl)<|hst.z rfl (Y.load 4 isAgg3 rfl rfl rfl)<|hst.z rfl (Y.loadA 0 isAgg57 sizeOf57 rfl rfl rfl rfl)<|Drw.z rfl rfl rfl rfl (X.call cf123 rfl<|?_); refine use_call (step_any b T p s A cap _ i.ticks (gateNext p me s i) A9 c9 _ _ _ _ _ hst.up_5 hnt.1 hnt.2 hr9) rfl ?_; clear hst; rintro e w114 ⟨A14, c14, rfl, hst⟩; replace hst := hst.dn5; refine ⟨_, rfl, ?_⟩; refine Drw.done<|W.seq rfl<|W.drawn rfl (by kernel_rfl) (Ctx _ _ (_) (_)) [9, 10] (.op 0 0 (.op 1 0 (.op 2 0 (.op 3 0 (.op 4 0 (.op 5 0 (.op 6 0 (.op 7 0 (.op 8 0 (.op 9 1 (.op 10 1 .nil))))))))))) rfl (by kernel_rfl) hst.drew.ctx<|?_; replace hst := hst.drew; generalize World.drew _ = wd at hst ⊢; refine hst.z rfl (Y.moveP rfl)<|hst.z rfl (Y.nilCheck rfl)<|hst.z rfl (Y.fieldAddr fa153_0 rfl)<|hst.z rfl (Y.moveP rfl)<|hst.z rfl (Y.nilCheck rfl)<|hst.z rfl (Y.fieldAddr fa153_1 rfl)<|hst.z rfl (Y.load 5 isAgg3 rfl rfl rfl)<|hst.z rfl (Y.moveB rfl)<|hst.z rfl (Y.loadA 1 isAgg53 sizeOf53 rfl rfl rfl rfl)<|Drw.z rfl rfl rfl rfl (X.call cf124 rfl<|?_); refine use_call (say_any b T p (gateBeat p me s i) A14 c14 _ 1 me b7 (seenR p i).lo (seenR p i).hi hbt (stepS_n _ _ _ _) _ _ _ _ _ hst.up_5 (Rds.rowG 0 rfl)) rfl ?_; clear hst; rintro e w124 ⟨A24, c24, rfl, hst⟩; replace hst := hst.dn5; refine ⟨_, rfl, ?_⟩; refine Drw.z rfl rfl rfl rfl (X.storeS hst 3 sizeOf103 rfl rfl rfl rfl rfl (lZ rfl) rfl rfl fun w24_10 hst => Drw.done<|W.ret rfl<|⟨_, Rslt.cell results116 rfl (res_at isAgg103 sizeOf103 3 hst rfl rfl), ?_⟩); exact ⟨A14, c14, A24, c24, _, congrArg (fun q => Ending.returned (.agg (msgC (sayM p (gateBeat p me s i) 1 me q (seenR p i)) A24 c24).toArray)) hb7, fun r hr => .tail _ (.tail _ hr), Rds.rowG 1 rfl, Rds.rowG 0 rfl, (hst.dr 5)⟩
            refine W.sr rfl<|hst.y rfl (Y.fieldAddr fa99_4 rfl)<|hst.yb rfl (Y.cast (Y.load 4 isAgg4 rfl rfl rfl) (boolD _)) (fun b104 hb104 => Ops.done rfl<|?_); cases b104
            · replace hb104 := dF hb104; refine W.condF rfl rfl<|W.skip rfl<|?_; have hq : gateNext p me s i = gate1 p me s i := if_neg hb104; exact ⟨(A, cap), trivial, ⟨rfl, rfl, rfl, rfl, rfl, rfl, trivial⟩, by rw [hq, gate1_tab]; exact hrS, by rw [hq]; exact hst⟩
            · replace hb104 := dT hb104; refine W.condT rfl rfl<|W.region rfl<|hst.y rfl (Y.fieldAddr fa99_5 rfl)<|hst.y rfl (Y.load 4 isAgg41 rfl rfl rfl)<|hst.y rfl (Y.fieldAddr fa57_6 rfl)<|Ops.ww rfl (X.storeV hst 0 (.slice _ _ _) sizeOf41 rfl rfl rfl rfl (lZ rfl) rfl rfl fun w22_3 hst => Ops.done rfl<|?_); have hq : gateNext p me s i = { gate1 p me s i with tab := i.tab } := if_pos hb104; exact ⟨(i.TA, i.tcap), trivial, ⟨rfl, rfl, rfl, rfl, rfl, rfl, trivial⟩, by rw [hq]; exact hrI, by rw [hq]; exact hst⟩
          refine W.sr rfl<|hst.y rfl (Y.moveB rfl)<|Ops.done rfl<|?_; cases b97
          · replace hb97 := dF hb97; refine W.condF rfl rfl<|W.skip rfl<|?_; rw [e1] at hb97; have hq : gate1 p me s i = gate0 p s i := if_neg hb97; exact ⟨(), trivial, ⟨rfl, rfl, rfl, rfl, rfl, rfl, trivial⟩, by rw [hq]; exact (hst.sub (.cons _ (.cons_cons _ (.cons _ (.cons _ (.cons_cons _ (.cons_cons _ (.cons_cons _ (.cons_cons _ (.cons_cons _ (.refl _)))))))))))⟩
          · replace hb97 := dT hb97; refine W.condT rfl rfl<|W.region rfl<|hst.y rfl (Y.loadA 0 isAgg53 sizeOf53 rfl rfl rfl rfl)<|hst.y rfl (Y.fieldAddr fa57_0 rfl)<|Ops.ww rfl (X.storeS hst 1 sizeOf53 rfl rfl rfl rfl rfl (lZ rfl) rfl rfl fun w20_2 hst => hst.y rfl (Y.fieldAddr fa57_3 rfl)<|Ops.ww rfl (X.storeV hst 1 (.int _ _) sizeOf3 rfl rfl rfl rfl (lZ rfl) rfl rfl fun w20_4 hst => hst.y rfl (Y.fieldAddr fa57_5 rfl)<|Ops.ww rfl (X.storeV hst 1 (.bool _) sizeOf4 rfl rfl rfl rfl (lZ rfl) rfl rfl fun w20_6 hst => Ops.done rfl<|?_))); rw [e1] at hb97; have hq : gate1 p me s i = { gate0 p s i with lo := (fuseV p.F (gateSpans p me i)).lo, hi := (fuseV p.F (gateSpans p me i)).hi, held := 0, good := true } := if_pos hb97; rw [← e1] at hq; exact ⟨(), trivial, ⟨rfl, rfl, rfl, rfl, rfl, rfl, trivial⟩, by rw [hq]; exact (hst.sub (.cons _ (.cons_cons _ (.cons _ (.cons _ (.cons_cons _ (.cons_cons _ (.cons_cons _ (.cons_cons _ (.cons_cons _ (.refl _)))))))))))⟩
        · replace hb50 := dT hb50; refine W.condT rfl rfl<|W.skip rfl<|W.seq rfl<|W.block rfl<|W.seq rfl<|?_; have hk1 : k < (told p me i.heard).length := by omega
          have hsl := spansF_length p (spans0 p i) ((told p me i.heard).take k); rw [List.length_take] at hsl; refine W.region rfl<|hst.y rfl (Y.indexAddr underlying97 sizeOf138 rfl rfl ((Rds.sl (Rds.rowL 0 (by rfl)) hst).ne (flat_pos hdC_len (by decide) (by omega))) (by omega))<|?_; refine hst.y rfl (Y.loadSlA isAgg138 sizeOf138 rfl (Rds.rowL 0 rfl) (flat_atI hdC_len (told p me i.heard) k hk1) (hdC_len _))<|Ops.ww rfl (X.allocA hst zeroValue138 fun p10 w10 hst => Ops.ww rfl (X.storeS hst 0 sizeOf138 rfl rfl rfl rfl rfl (lZ rfl) rfl rfl fun w12_3 hst => Ops.ds rfl rfl<|hst.y rfl (Y.fieldAddr fa138_0 rfl)<|hst.y rfl (Y.fieldAddr fa103_6 rfl)<|hst.yb rfl (Y.cast (Y.load 0 isAgg4 rfl rfl rfl) (boolD _)) (fun b55 hb55 => Ops.done rfl<|?_))); cases b55
          · replace hb55 := dF hb55; refine W.condF rfl rfl<|W.skip rfl<|W.region rfl<|hst.y rfl (Y.addI rfl rfl (by omega))<|hst.y rfl (Y.moveI rfl)<|Ops.done rfl<|?_; have e2 := (spansF_snoc p (spans0 p i) _ k hk1).trans (if_neg hb55); refine ⟨(k + 1, (A8, c8)), ⟨?_, rfl, trivial⟩, ⟨rfl, rfl, rfl, rfl, rfl, rfl, rfl, rfl, trivial⟩, ⟨by omega, by rw [e2]; exact (hst.dr 1)⟩, by dsimp only at *; omega⟩; rw [e2]; rfl
          · replace hb55 := dT hb55; refine W.condT rfl rfl<|W.region rfl<|hst.y rfl (Y.moveS rfl)<|hst.y rfl (Y.loadA 4 isAgg23 sizeOf23 rfl rfl rfl rfl)<|hst.y rfl (Y.fieldAddr fa138_0 rfl)<|hst.y rfl (Y.fieldAddr fa103_7 rfl)<|hst.y rfl (Y.loadA 0 isAgg53 sizeOf53 rfl rfl rfl rfl)<|hst.y rfl (Y.fieldAddr fa138_1 rfl)<|hst.y rfl (Y.load 0 isAgg3 rfl rfl rfl)<|Ops.ww rfl (X.ret cf119 (way_any p _ _ _ _ _ _ _ _ hst ) rfl fun w63 hst => Ops.ww rfl (X.lit1 hst underlying228 sizeOf53 zeroValue53 rfl rfl rfl fun p64 w64 hst => Ops.ww rfl (X.app hst 3 0 underlying228 info53 rfl rfl rfl rfl rfl rfl rfl rfl (by dsimp only; unfold maxLen; omega) (by dsimp only; omega) fun A65 c65 w65 hst => ?_))); refine hst.y rfl (Y.assignS rfl)<|Ops.done rfl<|W.region rfl<|hst.y rfl (Y.addI rfl rfl (by omega))<|hst.y rfl (Y.moveI rfl)<|Ops.done rfl<|?_; have e2 := (spansF_snoc p (spans0 p i) _ k hk1).trans (if_pos hb55); have e3 : (spansF p (spans0 p i) ((told p me i.heard).take k) ++ [wayOf p (told p me i.heard)[k]]).length = (spansF p (spans0 p i) ((told p me i.heard).take k)).length + 1 := by simp
            have e4 : flat spC (spansF p (spans0 p i) ((told p me i.heard).take k) ++ [wayOf p (told p me i.heard)[k]]) = flat spC (spansF p (spans0 p i) ((told p me i.heard).take k)) ++ spC (wayOf p (told p me i.heard)[k]) := by rw [flat_append]; simp [flat]
            refine ⟨(k + 1, (A65, c65)), ⟨?_, rfl, trivial⟩, ⟨rfl, rfl, rfl, rfl, rfl, rfl, rfl, rfl, trivial⟩, ⟨by omega, by rw [e2, e3, e4]; exact (hst.dr 2)⟩, by dsimp only at *; omega⟩; rw [e2, e3]; rfl
    refine W.sr rfl<|hst.y rfl (Y.moveB rfl)<|Ops.done rfl<|?_; cases b7
    · replace hb7 := dF hb7; refine W.condF rfl rfl<|W.region rfl<|hst.y rfl (bd53_ rfl)<|Ops.ww rfl (X.storeS hst 1 sizeOf53 rfl rfl rfl rfl rfl (lZ rfl) rfl rfl fun w9_1 hst => Ops.done rfl<|?_); have q1 : spans0 p i = [] := if_neg hb7; have q2 : seenR p i = ⟨0, 0⟩ := if_neg hb7; refine ⟨(none, 0), ⟨?_, trivial⟩, ⟨rfl, rfl, rfl, rfl, rfl, rfl, trivial⟩, ?_⟩
      · rw [q1]; rfl
      · rw [q1, q2]; exact hst
    · replace hb7 := dT hb7; refine W.condT rfl rfl<|W.region rfl<|hst.y rfl (Y.moveS rfl)<|hst.y rfl (Y.loadA 1 isAgg53 sizeOf53 rfl rfl rfl rfl)<|Ops.ww rfl (X.lit1 hst underlying228 sizeOf53 zeroValue53 rfl rfl rfl fun p37 w37 hst => Ops.ww rfl (X.app hst 1 0 underlying228 info53 rfl rfl rfl rfl rfl rfl rfl rfl (by unfold maxLen; omega) (by omega) fun A38 c38 w38 hst => ?_)); refine hst.y rfl (Y.assignS rfl)<|Ops.done rfl<|?_; have q1 : spans0 p i = [seen p i.reading] := if_pos hb7; have q2 : seenR p i = seen p i.reading := if_pos hb7; refine ⟨(A38, c38), ⟨?_, trivial⟩, ⟨rfl, rfl, rfl, rfl, rfl, rfl, trivial⟩, ?_⟩
      · rw [q1]; rfl
      · rw [q1, q2]; exact (hst.dr 1)
  refine W.region rfl<|hst.y rfl (Y.moveB rfl)<|hst.y rfl (Y.moveB rfl)<|?_; cases b26
  · replace hb26 := dF hb26; refine Ops.nn rfl<|Ops.nn rfl<|hst.y rfl (Y.pB rfl rfl)<|hst.y rfl (Y.assignB rfl)<|Ops.done rfl<|?_; exact ⟨_, ⟨rfl, trivial⟩, ⟨rfl, rfl, rfl, rfl, rfl, trivial⟩, (decide_eq_false (fun h => hb26 h.1)).symm, hst⟩
  · replace hb26 := dT hb26; refine hst.y rfl (Y.fieldAddr fa99_2 rfl)<|hst.yb rfl (Y.cast (Y.load 3 isAgg4 rfl rfl rfl) (boolD _)) (fun b32 hb32 => hst.y rfl (Y.pB rfl rfl)<|hst.y rfl (Y.assignB rfl)<|Ops.done rfl<|?_); exact ⟨_, ⟨rfl, trivial⟩, ⟨rfl, rfl, rfl, rfl, rfl, trivial⟩, hb32.trans (decide_eq_decide.2 ⟨fun h => ⟨hb26, h⟩, fun h => h.2⟩), hst⟩
end Go.Proofs.YtaanjifekgfemaaGreat.Cl
end
section
namespace Go.Proofs.YtaanjifekgfemaaGreat.Cl
open Tryz
open Go.RowKit Go.Proofs.YtaanjifekgfemaaGreat.K Go.Proofs.YtaanjifekgfemaaGreat.W
def mhC (h : Hd) : List Value := [.int .i64 h.m.kind, .int .i64 h.m.from_, .int .i64 h.m.slo, .int .i64 h.m.shi, .int .i64 h.m.held, .int .i64 h.m.hops, .bool h.m.good, .bool h.m.ref, .int .i64 h.m.elo, .int .i64 h.m.ehi, .int .i64 h.m.pulse, .int .i64 h.m.time, .int .i64 h.m.num, .slice h.A h.m.tab.length h.cap]
theorem mhC_len (h : Hd) : (mhC h).length = 14 := rfl
def Hd0 : Hd := ⟨M0, none, 0, 0⟩
def bestC (o : Option Hd) : List Value := mhC (o.getD Hd0)
def takes (p : Par) (best : Option Hd) (h : Hd) : Prop := usable p h.m ∧ match best with | none => True | some b => better h.m b.m < 0
instance (p : Par) (best : Option Hd) (h : Hd) : Decidable (takes p best h) := by unfold takes; cases best <;> infer_instance
def choStep (p : Par) (best : Option Hd) (h : Hd) : Option Hd := if takes p best h then some h else best
def choose1 (p : Par) (l : List Hd) : Option Hd := l.foldl (choStep p) none
theorem choose1_snoc (p : Par) (l : List Hd) (k : Nat) (h : k < l.length) : choose1 p (l.take (k + 1)) = choStep p (choose1 p (l.take k)) l[k] := by
  unfold choose1; rw [List.take_succ_eq_append_getElem h, List.foldl_append]; rfl
theorem choose1_some {p : Par} {l : List Hd} {h : Hd} (hc : choose1 p l = some h) : h ∈ l ∧ usable p h.m := by
  have : ∀ (l : List Hd) (b : Option Hd), (∀ h, l.foldl (choStep p) b = some h → (h ∈ l ∧ usable p h.m) ∨ b = some h) := by
    intro l
    induction l with
    | nil => intro b h e; exact .inr e
    | cons x l ih =>
      intro b h e; rcases ih _ _ e with h2 | h2
      · exact .inl ⟨List.mem_cons_of_mem _ h2.1, h2.2⟩
      · unfold choStep at h2; split at h2
        · rename_i ht; injection h2 with h2; subst h2; exact .inl ⟨List.mem_cons_self, ht.1⟩
        · exact .inr h2
  rcases this l none h hc with h2 | h2
  · exact h2
  · cases h2
end Go.Proofs.YtaanjifekgfemaaGreat.Cl
end
section
namespace Go.Proofs.YtaanjifekgfemaaGreat.Cl
open Tryz
open Go.RowKit Go.Proofs.YtaanjifekgfemaaGreat.K Go.Proofs.YtaanjifekgfemaaGreat.W
attribute [local irreducible] bound clip adds sub neg mag mulp mul maxs
theorem cf191 : CF 191 := fun _ _ => by simp [go_sem]
theorem cf192 : CF 192 := fun _ _ => by simp [go_sem]
theorem choose_any (p : Par) (l : List Hd) (hl : l.length ≤ 1000000) (A : Option Addr) (cap : Nat) (w0 w : World) (F0 : List Nat) (L G : List Res) (hst : St w0 F0 w L G) (hr : Rds L G (.slice A l.length cap) l.length (flat mhC l)) :
    Calls Tryz.prog 185 #[.agg #[.int .i64 p.N, .int .i64 p.F, .int .i64 p.D, .int .i64 p.Beat, .int .i64 p.Rho, .int .i64 p.Delay, .int .i64 p.Jitter, .int .i64 p.Eps, .int .i64 p.Mu, .int .i64 p.Hold, .int .i64 p.Pulse, .int .i64 p.Second], .slice A l.length cap] w fun e w' => ∃ b, e = .returned (.tuple #[.agg (bestC (choose1 p l)).toArray, .bool b]) ∧ b = decide ((choose1 p l).isSome = true) ∧ St w0 F0 w' L G := by
  refine W.func func185 rfl ntmps185 rfl<|W.sr rfl<|Ops.ww rfl (X.boxA hst rfl fun p2 w2 hst => Ops.ww rfl (X.allocA hst zeroValue103 fun p4 w4 hst => hst.y rfl (Y.assignB rfl)<|Ops.ds rfl rfl<|hst.y rfl (bd103_ rfl)<|Ops.ww rfl (X.allocA hst zeroValue103 fun p6 w6 hst => Ops.ww rfl (X.storeS hst 0 sizeOf103 rfl rfl rfl rfl rfl (lZ rfl) rfl rfl fun w1_2 hst => hst.y rfl (Y.assignB rfl)<|Ops.done rfl<|W.seq rfl<|W.sr rfl<|hst.y rfl (Y.moveS rfl)<|hst.y rfl (Y.lenS underlying90 rfl)<|hst.y rfl (Y.moveI rfl)<|Ops.done rfl<|W.block rfl<|?_)))); refine W.loop (γ := Nat × Bool) [(2, .pointer _), (4, .pointer _), (6, .pointer _), (11, .slice _ _ _), (12, .int _ _)] (fun x => [(7, .bool x.2), (13, .int .i64 (x.1 : Int))]) (fun x w => (x.1 ≤ l.length ∧ x.2 = decide ((choose1 p (l.take x.1)).isSome = true)) ∧ St w0 F0 w (cellsR p6 (bestC (choose1 p (l.take x.1))) 103 :: cellsR p4 (bestC none) 103 :: cellsR p2 (parC p) 23 :: L) G) (fun x => l.length - x.1) ((0, false)) rfl ⟨rfl, rfl, rfl, rfl, rfl, trivial⟩ ?_ ?_ ?_
  · exact ⟨rfl, rfl, trivial⟩
  · exact ⟨⟨by omega, rfl⟩, hst⟩
  · clear hst; rintro ⟨k, b7⟩ j w5 ⟨⟨hk, hb7⟩, hst⟩; refine W.sr rfl<|hst.yb rfl (Y.lss rfl rfl) (fun b14 hb14 => Ops.done rfl<|W.seq rfl<|?_); cases b14
    · replace hb14 := dF hb14; refine W.condF rfl rfl<|W.exit rfl<|W.seq rfl<|?_; obtain rfl : k = l.length := by omega
      have e1 : l.take l.length = l := List.take_length; refine W.region rfl<|hst.y rfl (Y.loadA 0 isAgg103 sizeOf103 rfl rfl rfl rfl)<|hst.y rfl (Y.moveB rfl)<|Ops.ww rfl (X.storeS hst 1 sizeOf103 rfl rfl rfl rfl rfl (lZ rfl) rfl rfl fun w8_2 hst => hst.y rfl (Y.assignB rfl)<|Ops.done rfl<|W.ret rfl<|⟨_, Rslt.cellTmp results185 rfl (res_at isAgg103 sizeOf103 1 hst rfl rfl) rfl, ?_⟩); exact ⟨b7, congrArg (fun q => Ending.returned (.tuple #[.agg (bestC (choose1 p q)).toArray, .bool b7])) e1, hb7.trans (congrArg (fun q => decide ((choose1 p q).isSome = true)) e1), (hst.dr 3)⟩
    · replace hb14 := dT hb14; refine W.condT rfl rfl<|W.skip rfl<|W.seq rfl<|W.block rfl<|W.seq rfl<|?_; have hk1 : k < l.length := by omega
      refine W.region rfl<|hst.y rfl (Y.indexAddr underlying90 sizeOf103 rfl rfl ((Rds.sl (((hr.cons _).cons _).cons _) hst).ne (flat_pos mhC_len (by decide) (by omega))) (by omega))<|?_; refine hst.y rfl (Y.loadSlA isAgg103 sizeOf103 rfl (((hr.cons _).cons _).cons _) (flat_atI mhC_len l k hk1) (mhC_len _))<|Ops.ww rfl (X.allocA hst zeroValue103 fun p9 w9 hst => Ops.ww rfl (X.storeS hst 0 sizeOf103 rfl rfl rfl rfl rfl (lZ rfl) rfl rfl fun w4_3 hst => Ops.done rfl<|W.seq rfl<|?_)); refine W.cut [(2, .pointer _), (4, .pointer _), (6, .pointer _), (7, .bool _), (9, .pointer _), (11, .slice _ _ _), (12, .int _ _), (13, .int _ _)] (fun x : Bool => [(29, .bool x)]) (fun x w => x = decide (takes p (choose1 p (l.take k)) l[k]) ∧ St w0 F0 w (cellsR p9 (mhC l[k]) 103 :: cellsR p6 (bestC (choose1 p (l.take k))) 103 :: cellsR p4 (bestC none) 103 :: cellsR p2 (parC p) 23 :: L) G) ⟨rfl, rfl, rfl, rfl, rfl, rfl, rfl, rfl, trivial⟩ ?_ ?_
      rotate_left
      · clear hst; rintro b29 j w7 ⟨hb29, hst⟩; cases b29
        · replace hb29 := dF hb29; refine W.condF rfl rfl<|W.skip rfl<|W.region rfl<|hst.y rfl (Y.addI rfl rfl (by omega))<|hst.y rfl (Y.moveI rfl)<|Ops.done rfl<|?_; have e2 := (choose1_snoc p l k hk1).trans (if_neg hb29); exact ⟨(k + 1, b7), ⟨rfl, rfl, trivial⟩, ⟨rfl, rfl, rfl, rfl, rfl, trivial⟩, ⟨⟨by omega, by rw [e2]; exact hb7⟩, by rw [e2]; exact (hst.dr 1)⟩, by dsimp only at *; omega⟩
        · replace hb29 := dT hb29; refine W.condT rfl rfl<|W.region rfl<|hst.y rfl (Y.loadA 0 isAgg103 sizeOf103 rfl rfl rfl rfl)<|Ops.ww rfl (X.storeS hst 1 sizeOf103 rfl rfl rfl rfl rfl (lZ rfl) rfl rfl fun w6_1 hst => hst.y rfl (Y.assignB rfl)<|Ops.done rfl<|W.region rfl<|hst.y rfl (Y.addI rfl rfl (by omega))<|hst.y rfl (Y.moveI rfl)<|Ops.done rfl<|?_); have e2 := (choose1_snoc p l k hk1).trans (if_pos hb29); exact ⟨(k + 1, true), ⟨rfl, rfl, trivial⟩, ⟨rfl, rfl, rfl, rfl, rfl, trivial⟩, ⟨⟨by omega, by rw [e2]; rfl⟩, by rw [e2]; exact (hst.dr 1)⟩, by dsimp only at *; omega⟩
      refine W.region rfl<|hst.y rfl (Y.loadA 3 isAgg23 sizeOf23 rfl rfl rfl rfl)<|hst.y rfl (Y.loadA 0 isAgg103 sizeOf103 rfl rfl rfl rfl)<|Ops.ww rfl (X.retB cf191 (usable_any p l[k].m _ _ _ _ _ _ _ hst) rfl fun b19 w19 hb19 hst => hst.y rfl (Y.moveB rfl)<|?_); cases b19
      · replace hb19 := dF hb19; refine Ops.nn rfl<|Ops.nn rfl<|Ops.nn rfl<|Ops.nn rfl<|Ops.nn rfl<|Ops.nn rfl<|Ops.nn rfl<|Ops.nn rfl<|hst.y rfl (Y.pB rfl rfl)<|Ops.done rfl<|?_; exact ⟨_, ⟨rfl, trivial⟩, ⟨rfl, rfl, rfl, rfl, rfl, rfl, rfl, rfl, trivial⟩, (decide_eq_false (fun h => hb19 h.1)).symm, hst⟩
      · replace hb19 := dT hb19; refine hst.y rfl (Y.moveB rfl) ?_; cases b7
        · replace hb7 := dF hb7; refine hst.y rfl (Y.not rfl)<|hst.y rfl (Y.moveB rfl)<|Ops.nn rfl<|Ops.nn rfl<|Ops.nn rfl<|Ops.nn rfl<|hst.y rfl (Y.pB rfl rfl)<|hst.y rfl (Y.pB rfl rfl)<|Ops.done rfl<|?_; have hn : choose1 p (l.take k) = none := by cases hc : choose1 p (l.take k) with | none => rfl | some z => rw [hc] at hb7; exact absurd rfl hb7
          exact ⟨_, ⟨rfl, trivial⟩, ⟨rfl, rfl, rfl, rfl, rfl, rfl, rfl, rfl, trivial⟩, (decide_eq_true ⟨hb19, by rw [hn]; trivial⟩).symm, hst⟩
        · replace hb7 := dT hb7; refine hst.y rfl (Y.not rfl)<|hst.y rfl (Y.moveB rfl)<|?_; obtain ⟨bb, hbb⟩ := Option.isSome_iff_exists.1 hb7; have hst1 := hst; rw [hbb] at hst; refine hst.y rfl (Y.loadA 0 isAgg103 sizeOf103 rfl rfl rfl rfl)<|hst.y rfl (Y.loadA 1 isAgg103 sizeOf103 rfl rfl rfl rfl)<|Ops.ww rfl (X.ret cf192 (better_any l[k].m bb.m _ _ _ _ _ _ _ _ _ hst) rfl fun w26 hst => hst.yb rfl (Y.lss rfl rfl) (fun b27 hb27 => hst.y rfl (Y.pB rfl rfl)<|hst.y rfl (Y.pB rfl rfl)<|Ops.done rfl<|?_)); exact ⟨_, ⟨rfl, trivial⟩, ⟨rfl, rfl, rfl, rfl, rfl, rfl, rfl, rfl, trivial⟩, hb27.trans (decide_eq_decide.2 ⟨fun h => ⟨hb19, by rw [hbb]; exact h⟩, fun h => by have := h.2; rw [hbb] at this; exact this⟩), by rw [hbb]; exact hst⟩
end Go.Proofs.YtaanjifekgfemaaGreat.Cl
end
section
namespace Go.Proofs.YtaanjifekgfemaaGreat.K
open Tryz
open Go.RowKit
structure Ent (κ ν : Type) where
  key : κ
  val : ν
  born : Nat
section
variable {κ ν : Type} [DecidableEq κ]
def entE (ek : κ → Value) (ev : ν → Value) (x : Ent κ ν) : MapEntry := ⟨ek x.key, ev x.val, x.born⟩
def mapR (ek : κ → Value) (ev : ν → Value) (b : Nat) (es : List (Ent κ ν)) (clock : Nat) : Res where
  fp := [b]
  holds w := w.heap[b]? = some (.map (es.map (entE ek ev)).toArray clock) ∧ (∀ x ∈ es, x.born < clock) ∧ (es.map (·.born)).Nodup
  loc w w' h := by rintro ⟨h1, h2⟩; exact ⟨by rw [h b (by simp)]; exact h1, h2⟩
def getV (k : κ) : List (Ent κ ν) → Option ν
  | [] => none
  | e :: es => if k = e.key then some e.val else getV k es
def setV (k : κ) (v : ν) : List (Ent κ ν) → List (Ent κ ν)
  | [] => []
  | e :: es => if k = e.key then ⟨e.key, v, e.born⟩ :: es else e :: setV k v es
def delV (k : κ) : List (Ent κ ν) → List (Ent κ ν)
  | [] => []
  | e :: es => if k = e.key then es else e :: delV k es
def putV (k : κ) (v : ν) (clock : Nat) (es : List (Ent κ ν)) : List (Ent κ ν) := match getV k es with
  | some _ => setV k v es
  | none => es ++ [⟨k, v, clock⟩]
def clockV (k : κ) (clock : Nat) (es : List (Ent κ ν)) : Nat := match getV k es with
  | some _ => clock
  | none => clock + 1
theorem setV_born (k : κ) (v : ν) (es : List (Ent κ ν)) : (setV k v es).map (·.born) = es.map (·.born) := by
  induction es with
  | nil => rfl
  | cons e es ih => unfold setV; split <;> simp [ih]
theorem delV_sub (k : κ) (es : List (Ent κ ν)) : (delV k es).Sublist es := by
  induction es with
  | nil => exact .refl _
  | cons e es ih =>
    unfold delV; split
    · exact List.sublist_cons_self _ _
    · exact ih.cons_cons _
def idxV (k : κ) (i : Nat) : List (Ent κ ν) → Option (Nat × ν)
  | [] => none
  | e :: es => if k = e.key then some (i, e.val) else idxV k (i + 1) es
theorem idxV_get (k : κ) (i : Nat) (es : List (Ent κ ν)) : (idxV k i es).map (·.2) = getV k es := by
  induction es generalizing i with
  | nil => rfl
  | cons e es ih => unfold idxV getV; split <;> simp [ih]
theorem idxV_set (k : κ) (i n : Nat) (v v0 : ν) (es : List (Ent κ ν)) (h : idxV k i es = some (n, v0)) (ek : κ → Value) (ev : ν → Value) (kk : Value) (hk : kk = ek k) :
    i ≤ n ∧ n - i < es.length ∧ (es.map (entE ek ev)).toArray.modify (n - i) (fun e => { e with key := kk, val := ev v }) = ((setV k v es).map (entE ek ev)).toArray ∧ ((es.map (entE ek ev)).toArray.eraseIdxIfInBounds (n - i)) = ((delV k es).map (entE ek ev)).toArray ∧ ((es.map (entE ek ev)).toArray[n - i]?).map (·.key) = some (ek k) := by
  induction es generalizing i with
  | nil => cases h
  | cons e es ih =>
    unfold idxV at h
    by_cases hk2 : k = e.key
    · rw [if_pos hk2] at h; injection h with h; injection h with h1 h2; subst h1; subst hk; refine ⟨Nat.le_refl _, by simp, ?_, ?_, ?_⟩
      · unfold setV; rw [if_pos hk2]; subst hk2; rw [← Array.toList_inj, Array.toList_modify]; simp [entE]
      · unfold delV; rw [if_pos hk2]; simp [Array.eraseIdxIfInBounds]
      · simp [entE, hk2]
    · rw [if_neg hk2] at h; obtain ⟨h1, h2, h3, h4, h5⟩ := ih (i + 1) h; obtain ⟨m, rfl⟩ : ∃ m, n = i + 1 + m := ⟨n - (i + 1), by omega⟩; have e1 : i + 1 + m - (i + 1) = m := by omega
      have e2 : i + 1 + m - i = m + 1 := by omega
      rw [e1] at h2 h3 h4 h5; rw [e2]; refine ⟨by omega, by simp; omega, ?_, ?_, ?_⟩
      · unfold setV; rw [if_neg hk2]; simp only [List.map_cons]; rw [← Array.toList_inj] at h3 ⊢; simp only [Array.toList_modify, List.modify_succ_cons] at h3 ⊢; rw [h3]
      · unfold delV; rw [if_neg hk2]; simp only [List.map_cons]; rw [← Array.toList_inj] at h4 ⊢; simp only [Array.toList_eraseIdxIfInBounds] at h4 ⊢; rw [List.eraseIdx_cons_succ, h4]
      · simpa using h5
end
end Go.Proofs.YtaanjifekgfemaaGreat.K
namespace Go.Proofs.YtaanjifekgfemaaGreat.K
open Tryz
open Go.RowKit Go.MapKept Go.ChangeMaps
section
variable {κ ν : Type} [DecidableEq κ] {ek : κ → Value} {ev : ν → Value}
def Keys (P : Program) (kt : TypeId) (ek : κ → Value) : Prop := ∃ d, P.underlying kt = some d ∧ (∀ k, IsKey d (ek k)) ∧ ∀ a b, Instr.sameNow d (ek a) (ek b) = some (decide (a = b))
theorem findNow_idx {d : TypeDesc} (h : ∀ a b : κ, Instr.sameNow d (ek a) (ek b) = some (decide (a = b))) (k : κ) (es : List (Ent κ ν)) (i : Nat) : Instr.findNow d (ek k) (es.map (entE ek ev)) i = some ((idxV k i es).map fun p => (p.1, ev p.2)) := by
  induction es generalizing i with
  | nil => rfl
  | cons e es ih =>
    simp only [List.map_cons, Instr.findNow]; have hs : Instr.sameNow d (ek k) (entE ek ev e).key = some (decide (k = e.key)) := h k e.key; rw [hs]; unfold idxV
    by_cases hk : k = e.key
    · rw [if_pos hk]; simp [hk, entE]
    · rw [if_neg hk]; simp [hk, ih]
variable {P : Program} {n : Fr} {c : Code} {Q : Post} {ρ : Env} {w0 w : World} {F0 : List Nat} {L G : List Res} {S : World → Prop} {ty t kt et : TypeId} {x y z : Operand}
theorem Ctx.res {r : Res} (h : Ctx w0 F0 L G w) (hr : r ∈ L ∨ r ∈ G) : r.holds w := by
  obtain ⟨L', G', h⟩ := h; rcases hr with hr | hr
  · exact h.res r (List.mem_append.2 (.inr hr))
  · exact (h.fact r (List.mem_append.2 (.inr hr))).1
theorem map_lookup (K : Keys P kt ek) (ht : P.underlying t = some (.map kt et)) {zv : Value} (hz : ∀ w, (zeroValue et).run P w = .ok zv w) {b : Nat} {es : List (Ent κ ν)} {clock : Nat} (h : (mapR ek ev b es clock).holds w) (k : κ) :
    (Instr.lookup t (.map (some b)) (ek k) true).run P w = .ok (.tuple #[((getV k es).map ev).getD zv, .bool (getV k es).isSome]) w := by
  obtain ⟨d, hd, hkey, hsame⟩ := K; have hf : (Instr.findKey kt (ek k) ((es.map (entE ek ev)).toArray).toList).run P w = .ok ((idxV k 0 es).map fun p => (p.1, ev p.2)) w := run_findKey hd (findNow_idx hsame k es 0); have hg := idxV_get k 0 es; simp only [Instr.lookup, run_underlying ht, MapKept.run_getObj_map h.1, run_checkKey hd (hkey k), Sem.run_bind, Result.andThen, hf, Sem.run_pure]
  cases hi : idxV k 0 es with
  | none =>
    rw [hi] at hg; simp [← hg, hz, Result.andThen]
  | some p =>
    rw [hi] at hg; simp [← hg, Result.andThen]
theorem Y.lookup (K : Keys P kt ek) (ht : P.underlying t = some (.map kt et)) {z0 : ν} (hz : ∀ w, (zeroValue et).run P w = .ok (ev z0) w) (j : Nat) {b : Nat} (hx : Go.Proofs.YtaanjifekgfemaaGreat.K.ev ρ x = .map (some b)) {es : List (Ent κ ν)} {clock : Nat} (hL : L[j]? = some (mapR ek ev b es clock)) {k : κ} (hk : Go.Proofs.YtaanjifekgfemaaGreat.K.ev ρ y = ek k) :
    Y P (Ctx w0 F0 L G) ρ (.lookup t x y true) ty (.tuple #[ev ((getV k es).getD z0), .bool (getV k es).isSome]) := fun w hw o ho _ => by
  have h := map_lookup (w := w) K ht hz (hw.res (.inl (List.mem_of_getElem? hL))) k; have e : ((getV k es).map ev).getD (ev z0) = ev ((getV k es).getD z0) := by cases getV k es <;> rfl
  rw [e] at h; simp [execOp, ho, hx, hk, h]
theorem map_lookupV (K : Keys P kt ek) (ht : P.underlying t = some (.map kt et)) {zv : Value} (hz : ∀ w, (zeroValue et).run P w = .ok zv w) {b : Nat} {es : List (Ent κ ν)} {clock : Nat} (h : (mapR ek ev b es clock).holds w) (k : κ) :
    (Instr.lookup t (.map (some b)) (ek k) false).run P w = .ok (((getV k es).map ev).getD zv) w := by
  obtain ⟨d, hd, hkey, hsame⟩ := K; have hf : (Instr.findKey kt (ek k) ((es.map (entE ek ev)).toArray).toList).run P w = .ok ((idxV k 0 es).map fun p => (p.1, ev p.2)) w := run_findKey hd (findNow_idx hsame k es 0); have hg := idxV_get k 0 es; simp only [Instr.lookup, run_underlying ht, MapKept.run_getObj_map h.1, run_checkKey hd (hkey k), Sem.run_bind, Result.andThen, hf, Sem.run_pure]
  cases hi : idxV k 0 es with
  | none =>
    rw [hi] at hg; simp [← hg, hz, Result.andThen]
  | some p =>
    rw [hi] at hg; simp [← hg, Result.andThen]
theorem Y.lookupV (K : Keys P kt ek) (ht : P.underlying t = some (.map kt et)) {z0 : ν} (hz : ∀ w, (zeroValue et).run P w = .ok (ev z0) w) (j : Nat) {b : Nat} (hx : Go.Proofs.YtaanjifekgfemaaGreat.K.ev ρ x = .map (some b)) {es : List (Ent κ ν)} {clock : Nat} (hL : L[j]? = some (mapR ek ev b es clock)) {k : κ} (hk : Go.Proofs.YtaanjifekgfemaaGreat.K.ev ρ y = ek k) :
    Y P (Ctx w0 F0 L G) ρ (.lookup t x y false) ty (ev ((getV k es).getD z0)) := fun w hw o ho _ => by
  have h := map_lookupV (w := w) K ht hz (hw.res (.inl (List.mem_of_getElem? hL))) k; have e : ((getV k es).map ev).getD (ev z0) = ev ((getV k es).getD z0) := by cases getV k es <;> rfl
  rw [e] at h; simp [execOp, ho, hx, hk, h]
theorem putV_ok (k : κ) (v : ν) (clock : Nat) (es : List (Ent κ ν)) (h1 : ∀ x ∈ es, x.born < clock) (h2 : (es.map (·.born)).Nodup) : (∀ x ∈ putV k v clock es, x.born < clockV k clock es) ∧ ((putV k v clock es).map (·.born)).Nodup := by
  unfold putV clockV
  cases hg : getV k es with
  | some v0 =>
    dsimp only; refine ⟨fun x hx => ?_, by rw [setV_born]; exact h2⟩; have hb : x.born ∈ (setV k v es).map (·.born) := List.mem_map_of_mem hx; rw [setV_born] at hb; obtain ⟨y, hy, e⟩ := List.mem_map.1 hb; have := h1 y hy; omega
  | none =>
    dsimp only; refine ⟨fun x hx => ?_, ?_⟩
    · rcases List.mem_append.1 hx with hx | hx
      · have := h1 x hx; omega
      · rw [List.mem_singleton] at hx; subst hx; show clock < clock + 1; omega
    · rw [List.map_append, List.nodup_append]; refine ⟨h2, by simp, fun a ha b hb => ?_⟩; simp only [List.map_cons, List.map_nil, List.mem_singleton] at hb; obtain ⟨y, hy, rfl⟩ := List.mem_map.1 ha; have := h1 y hy; omega
theorem St.setMap {b : Nat} {o : Obj} {r r' : Res} {o0 : Obj} (h : St w0 F0 w L G) {j : Nat} (hL : L[j]? = some r) (hf : r.fp = [b]) (hf' : r'.fp = [b]) (hb : w.heap[b]? = some o0)
    (hr : r'.holds { w with heap := w.heap.setIfInBounds b o }) : St w0 F0 { w with heap := w.heap.setIfInBounds b o } (L.set j r') G := by
  have hj : j < L.length := by
    rcases Nat.lt_or_ge j L.length with h | h
    · exact h
    · rw [List.getElem?_eq_none h] at hL; cases hL
  have e1 : L = L.take j ++ r :: L.drop (j + 1) := by
    rw [List.getElem?_eq_getElem hj] at hL; injection hL with hL; rw [← hL]; simp
  have e2 : L.set j r' = L.take j ++ r' :: L.drop (j + 1) := by rw [List.set_eq_take_append_cons_drop, if_pos hj]
  have h2 : St w0 F0 w ([r] ++ (L.take j ++ L.drop (j + 1))) G := by
    rw [e1] at h; exact h.perm List.perm_middle
  have h3 : St w0 F0 { w with heap := w.heap.setIfInBounds b o } ([r'] ++ (L.take j ++ L.drop (j + 1))) G := by
    refine St.step (L1 := [r]) (L2 := [r']) h2 rfl rfl rfl (by simp) (fun k hk hn => ?_) (fun k hk => .inl ?_) (by simp [hf']) (by simpa using hr)
    · have : k ≠ b := fun e => hn (by simp [hf, e]); simp [Array.getElem?_setIfInBounds, Ne.symm this]
    · simpa [hf, hf'] using hk
  rw [e2]; exact h3.perm (List.perm_middle (l₁ := L.take j) (l₂ := L.drop (j + 1)) (a := r')).symm
theorem X.mapUpd (K : Keys P kt ek) (ht : P.underlying t = some (.map kt et)) (hst : St w0 F0 w L G) (j : Nat) {b : Nat} (hx : Go.Proofs.YtaanjifekgfemaaGreat.K.ev ρ x = .map (some b)) {es : List (Ent κ ν)} {clock : Nat} (hL : L[j]? = some (mapR ek ev b es clock)) {k : κ} (hk : Go.Proofs.YtaanjifekgfemaaGreat.K.ev ρ y = ek k) {v : ν} (hv : Go.Proofs.YtaanjifekgfemaaGreat.K.ev ρ z = ev v) {C : Value → World → Prop}
    (kk : ∀ w', St w0 F0 w' (L.set j (mapR ek ev b (putV k v clock es) (clockV k clock es))) G → C undef w') : X P ρ w (.mapUpdate t x y z) ty C := by
  have hR := hst.res _ (List.mem_of_getElem? hL); obtain ⟨d, hd, hkey, hsame⟩ := K; have hf : (Instr.findKey kt (ek k) ((es.map (entE ek ev)).toArray).toList).run P w = .ok ((idxV k 0 es).map fun p => (p.1, ev p.2)) w := run_findKey hd (findNow_idx hsame k es 0); have hg := idxV_get k 0 es; have hok := putV_ok k v clock es hR.2.1 hR.2.2
  have key : ∃ w', (Instr.mapUpdate t (.map (some b)) (ek k) (ev v)).run P w = .ok () w' ∧ St w0 F0 w' (L.set j (mapR ek ev b (putV k v clock es) (clockV k clock es))) G := by
    simp only [Instr.mapUpdate, run_underlying ht, MapKept.run_getObj_map hR.1, run_checkKey hd (hkey k), Sem.run_bind, Result.andThen, hf]
    cases hi : idxV k 0 es with
    | none =>
      rw [hi] at hg; simp only [Option.map_none] at hg ⊢; rw [run_setObj_map _ hR.1]; refine ⟨_, rfl, hst.setMap hL rfl rfl hR.1 ⟨?_, hok⟩⟩; have hlt := (Array.getElem?_eq_some_iff.1 hR.1).1; simp [Array.getElem?_setIfInBounds, hlt, putV, clockV, ← hg, entE]
    | some p =>
      rw [hi] at hg; simp only [Option.map_some] at hg ⊢; obtain ⟨h1, h2, h3, h4, h5⟩ := idxV_set k 0 p.1 v p.2 es hi ek ev (ek k) rfl; rw [Nat.sub_zero] at h3 h5; simp only [h5, Option.getD_some, Sem.run_bind, run_keyThatStays (hkey k), Result.andThen]; rw [run_setObj_map _ hR.1]; refine ⟨_, rfl, hst.setMap hL rfl rfl hR.1 ⟨?_, hok⟩⟩; have hlt := (Array.getElem?_eq_some_iff.1 hR.1).1; simp [Array.getElem?_setIfInBounds, hlt, putV, clockV, ← hg, h3]
  obtain ⟨w', hr, h⟩ := key; intro a ops Q o ho _ ha hw; refine wpl_skip hw (w' := w') ?_ ⟨_, rfl, kk w' h⟩; rw [ha]; simp [execOp, ho, hx, hk, hv, hr]
theorem X.makeMap (hst : St w0 F0 w L G) (ek : κ → Value) (ev : ν → Value) {C : Value → World → Prop} (kk : ∀ b w', St w0 F0 w' (mapR ek ev b [] 0 :: L) G → C (.map (some b)) w') : X P ρ w (.makeMap t none) ty C := by
  intro a ops Q o ho _ ha hw; refine wpl hw (v := .map (some w.heap.size)) (w' := w.alloc (.map #[] 0)) ?_ ⟨_, rfl, kk _ _ (hst.alloc _ (mapR ek ev w.heap.size [] 0) rfl ⟨?_, by simp, by simp⟩)⟩
  · rw [ha]; simp [execOp, ho, Instr.makeMap]
  · exact heap_alloc_new w _
theorem Y.lenM {kt et : TypeId} (ht : P.underlying t = some (.map kt et)) (j : Nat) {b : Nat} (hx : Go.Proofs.YtaanjifekgfemaaGreat.K.ev ρ x = .map (some b)) {es : List (Ent κ ν)} {clock : Nat} (hL : L[j]? = some (mapR ek ev b es clock)) :
    Y P (Ctx w0 F0 L G) ρ (.call { callee := .builtin .len, args := #[x], argTypes := #[t] }) ty (.int .i64 (es.length : Int)) := fun w hw o ho _ => by
  have h := (hw.res (.inl (List.mem_of_getElem? hL))).1; simp [execOp, ho, resolve, invoke, builtin, hx, Builtin.len_, run_underlying ht, MapKept.run_getObj_map h, goInt]
theorem delV_ok (k : κ) (clock : Nat) (es : List (Ent κ ν)) (h1 : ∀ x ∈ es, x.born < clock) (h2 : (es.map (·.born)).Nodup) : (∀ x ∈ delV k es, x.born < clock) ∧ ((delV k es).map (·.born)).Nodup :=
  ⟨fun x hx => h1 x ((delV_sub k es).mem hx), ((delV_sub k es).map _).nodup h2⟩
theorem X.mapDel (K : Keys P kt ek) (ht : P.underlying t = some (.map kt et)) (hst : St w0 F0 w L G) (j : Nat) {b : Nat} (hx : Go.Proofs.YtaanjifekgfemaaGreat.K.ev ρ x = .map (some b)) {es : List (Ent κ ν)} {clock : Nat} (hL : L[j]? = some (mapR ek ev b es clock)) {k : κ} (hk : Go.Proofs.YtaanjifekgfemaaGreat.K.ev ρ y = ek k) {t' : TypeId} {C : Value → World → Prop}
    (kk : ∀ w', St w0 F0 w' (L.set j (mapR ek ev b (delV k es) clock)) G → C (.tuple #[]) w') : X P ρ w (.call { callee := .builtin .delete, args := #[x, y], argTypes := #[t, t'] }) ty C := by
  have hR := hst.res _ (List.mem_of_getElem? hL); obtain ⟨d, hd, hkey, hsame⟩ := K; have hf : (Instr.findKey kt (ek k) ((es.map (entE ek ev)).toArray).toList).run P w = .ok ((idxV k 0 es).map fun p => (p.1, ev p.2)) w := run_findKey hd (findNow_idx hsame k es 0); have hok := delV_ok k clock es hR.2.1 hR.2.2
  have key : ∃ w', (Builtin.delete_ #[t, t'] ty #[.map (some b), ek k]).run P w = .ok (.tuple #[]) w' ∧ St w0 F0 w' (L.set j (mapR ek ev b (delV k es) clock)) G := by
    have hlt := (Array.getElem?_eq_some_iff.1 hR.1).1
    cases hi : idxV k 0 es with
    | none =>
      rw [hi] at hf
      have hdel : delV k es = es := by
        clear hf hR hok hL
        have : ∀ (es : List (Ent κ ν)) (i : Nat), idxV k i es = none → delV k es = es := by
          intro es
          induction es with
          | nil => intro _ _; rfl
          | cons e es ih =>
            intro i hi; unfold idxV at hi; unfold delV; split at hi
            · cases hi
            · rename_i hne; rw [if_neg hne, ih _ hi]
        exact this es 0 hi
      refine ⟨{ w with heap := w.heap.setIfInBounds b (.map (es.map (entE ek ev)).toArray clock) }, ?_, hst.setMap hL rfl rfl hR.1 ⟨?_, hok⟩⟩
      · simp [Builtin.delete_, run_underlying ht, MapKept.run_getObj_map hR.1, run_checkKey hd (hkey k), Result.andThen, hf, run_setObj_map _ hR.1]
      · simp [Array.getElem?_setIfInBounds, hlt, hdel]
    | some p =>
      rw [hi] at hf; obtain ⟨h1, h2, h3, h4, h5⟩ := idxV_set k 0 p.1 p.2 p.2 es hi ek ev (ek k) rfl; rw [Nat.sub_zero] at h4; refine ⟨{ w with heap := w.heap.setIfInBounds b (.map ((es.map (entE ek ev)).toArray.eraseIdxIfInBounds p.1) clock) }, ?_, hst.setMap hL rfl rfl hR.1 ⟨?_, hok⟩⟩
      · simp [Builtin.delete_, run_underlying ht, MapKept.run_getObj_map hR.1, run_checkKey hd (hkey k), Result.andThen, hf, run_setObj_map _ hR.1]
      · simp [Array.getElem?_setIfInBounds, hlt, h4]
  obtain ⟨w', hr, h⟩ := key; intro a ops Q o ho hty ha hw; refine wpl hw (v := .tuple #[]) (w' := w') ?_ ⟨_, rfl, kk w' h⟩; rw [ha]; simp [execOp, ho, resolve, invoke, builtin, hx, hk, hty, hr]
def iterR (r m since : Nat) (seen : List Nat) (c0 : Nat) : Res where
  fp := [r]
  holds w := w.heap[r]? = some (.mapIter (some m) since seen.toArray c0)
  loc w w' h := fun h1 => by rw [h r (by simp)]; exact h1
theorem X.range {kt et : TypeId} (ht : P.underlying t = some (.map kt et)) (hst : St w0 F0 w L G) (j : Nat) {b : Nat} (hx : Go.Proofs.YtaanjifekgfemaaGreat.K.ev ρ x = .map (some b)) {es : List (Ent κ ν)} {clock : Nat} (hL : L[j]? = some (mapR ek ev b es clock)) {C : Value → World → Prop}
    (kk : ∀ r w', St w0 F0 w' (iterR r b clock [] clock :: L) G → C (.pointer (some ⟨r, 0, none⟩)) w') : X P ρ w (.range t x) ty C := by
  have h := (hst.res _ (List.mem_of_getElem? hL)).1; intro a ops Q o ho _ ha hw; refine wpl hw (v := .pointer (some ⟨w.heap.size, 0, none⟩)) (w' := w.alloc (.mapIter (some b) clock #[] clock)) ?_ ⟨_, rfl, kk _ _ (hst.alloc _ (iterR w.heap.size b clock [] clock) rfl (heap_alloc_new w _))⟩; rw [ha]; simp [execOp, ho, hx, Instr.range, run_underlying ht, MapKept.run_getObj_map h]
theorem X.next (hst : St w0 F0 w L G) (i j : Nat) {r b since c0 : Nat} {seen : List Nat} (hx : Go.Proofs.YtaanjifekgfemaaGreat.K.ev ρ x = .pointer (some ⟨r, 0, none⟩)) (hI : L[i]? = some (iterR r b since seen c0)) {es : List (Ent κ ν)} {clock : Nat} (hL : L[j]? = some (mapR ek ev b es clock)) (h1 : clock ≤ since) (h2 : since ≤ c0) {C : Value → World → Prop}
    (k0 : (∀ e ∈ es, e.born ∈ seen) → ∀ w', St w0 F0 w' L G → C (.tuple #[.bool false]) w')
    (k1 : ∀ e ∈ es, e.born ∉ seen → ∀ w', St w0 F0 w' (L.set i (iterR r b since (seen ++ [e.born]) clock)) G → C (.tuple #[.bool true, ek e.key, ev e.val]) w') : X P ρ w (.next x false) ty C := by
  have hR := hst.res _ (List.mem_of_getElem? hL); have hr : w.heap[r]? = some (.mapIter (some b) since seen.toArray c0) := hst.res _ (List.mem_of_getElem? hI)
  have hold : ∀ e ∈ ((es.map (entE ek ev)).toArray).toList, e.born < since := by
    intro e he; simp only [List.mem_map] at he; obtain ⟨y, hy, rfl⟩ := he; have := hR.2.1 y hy; show y.born < since; omega
  intro a ops Q o ho hty ha hw; rcases run_next_at (P := P) w ty r b since c0 seen.toArray (es.map (entE ek ev)).toArray clock hr hR.1 hold h2 with ⟨h0, hrun⟩ | ⟨e, he, w1, hw1, hrun⟩
  · refine wpl hw (v := .tuple #[.bool false]) (w' := w) ?_ ⟨_, rfl, k0 (fun y hy => ?_) w hst⟩
    · rw [ha]; simp [execOp, ho, hx, hty, hrun]
    · rcases Decidable.em (y.born ∈ seen) with h | h
      · exact h
      · exfalso
        have hm : entE ek ev y ∈ (leftOf (es.map (entE ek ev)).toArray seen.toArray).toList := by
          unfold leftOf; simp only [Array.toList_filter, List.mem_filter]; exact ⟨List.mem_map_of_mem hy, by simpa [entE] using h⟩
        rw [Array.size_eq_zero_iff.1 h0] at hm; cases hm
  · have hm : e ∈ ((es.map (entE ek ev)).toArray).toList ∧ e.born ∉ seen := by
      unfold leftOf at he; simp only [Array.toList_filter, List.mem_filter] at he; exact ⟨he.1, by simpa using he.2⟩
    simp only [List.mem_map] at hm; obtain ⟨⟨y, hy, rfl⟩, hns⟩ := hm; have hst1 : St w0 F0 w1 L G := by rcases hw1 with rfl | rfl; exact hst; exact hst.drew
    have hr1 : w1.heap[r]? = some (.mapIter (some b) since seen.toArray c0) := hst1.res _ (List.mem_of_getElem? hI); refine wpl hw (v := .tuple #[.bool true, ek y.key, ev y.val]) (w' := setBlock w1 r (.mapIter (some b) since (seen.toArray.push y.born) clock)) ?_ ⟨_, rfl, k1 y hy hns _ ?_⟩
    · rw [ha]; simp [execOp, ho, hx, hty, hrun, entE]
    · refine hst1.setMap (r' := iterR r b since (seen ++ [y.born]) clock) (o := .mapIter (some b) since (seen.toArray.push y.born) clock) hI rfl rfl hr1 ?_; have hlt := (Array.getElem?_eq_some_iff.1 hr1).1; show (w1.heap.setIfInBounds r _)[r]? = _; simp [Array.getElem?_setIfInBounds, hlt]
def mnextL (L : List Res) (i r b since clock : Nat) (seen : List Nat) : Option (Ent κ ν) → List Res
  | none => L
  | some e => L.set i (iterR r b since (seen ++ [e.born]) clock)
def mnextV (ek : κ → Value) (ev : ν → Value) : Option (Ent κ ν) → Value
  | none => .tuple #[.bool false]
  | some e => .tuple #[.bool true, ek e.key, ev e.val]
def mnextP (es : List (Ent κ ν)) (seen : List Nat) : Option (Ent κ ν) → Prop
  | none => ∀ e ∈ es, e.born ∈ seen
  | some e => e ∈ es ∧ e.born ∉ seen
theorem X.nextO (hst : St w0 F0 w L G) (i j : Nat) {r b since c0 : Nat} {seen : List Nat} (hx : Go.Proofs.YtaanjifekgfemaaGreat.K.ev ρ x = .pointer (some ⟨r, 0, none⟩)) (hI : L[i]? = some (iterR r b since seen c0)) {es : List (Ent κ ν)} {clock : Nat} (hL : L[j]? = some (mapR ek ev b es clock)) (h1 : clock ≤ since) (h2 : since ≤ c0) {C : Value → World → Prop}
    (k : ∀ (o : Option (Ent κ ν)) w', mnextP es seen o → St w0 F0 w' (mnextL L i r b since clock seen o) G → C (mnextV ek ev o) w') : X P ρ w (.next x false) ty C :=
  X.next hst i j hx hI hL h1 h2 (fun h w' hst => k none w' h hst) (fun e he hn w' hst => k (some e) w' ⟨he, hn⟩ hst)
theorem Y.entry (i j : Nat) {r b since clock : Nat} {seen : List Nat} (hx : Go.Proofs.YtaanjifekgfemaaGreat.K.ev ρ x = .pointer (some ⟨r, 0, none⟩)) {es : List (Ent κ ν)} {e : Ent κ ν} (hI : L[i]? = some (iterR r b since (seen ++ [e.born]) clock)) (hL : L[j]? = some (mapR ek ev b es clock)) (he : e ∈ es) :
    Y P (Ctx w0 F0 L G) ρ (.entry x) ty (.tuple #[ek e.key, ev e.val]) := fun w hw o ho _ => by
  have hR := hw.res (.inl (List.mem_of_getElem? hL)); have hr : w.heap[r]? = some (.mapIter (some b) since (seen ++ [e.born]).toArray clock) := hw.res (.inl (List.mem_of_getElem? hI)); have h := run_entry_at (P := P) w r b since seen.toArray (es.map (entE ek ev)).toArray clock (entE ek ev e) (by simpa [entE] using hr) hR.1 (by simpa using List.mem_map_of_mem he) (by simpa [entE, Function.comp_def] using hR.2.2); simp [execOp, ho, hx, h, entE]
end
end Go.Proofs.YtaanjifekgfemaaGreat.K
end
section
namespace Go.Proofs.YtaanjifekgfemaaGreat.Cl
open Tryz
open Go.RowKit Go.Proofs.YtaanjifekgfemaaGreat.K Go.Proofs.YtaanjifekgfemaaGreat.W
def ikE (k : Int) : Value := .int .i64 k
def nrV (x : Int × Int) : Value := .agg #[.int .i64 x.1, .int .i64 x.2]
abbrev NT := List (Ent Int (Int × Int))
def nearOf (es : NT) (who : Int) : Int × Int := (getV who es).getD (0, 0)
def hearErr (es : NT) (who : Int) : Int := if who < 0 ∨ 48 ≤ who then 1 else if getV who es = none ∧ es.length = 16 then 7 else 0
def hearT (es : NT) (who : Int) (clock : Nat) : NT := if hearErr es who = 0 then putV who ((nearOf es who).1, 0) clock es else es
def hearC (es : NT) (who : Int) (clock : Nat) : Nat := if hearErr es who = 0 then clockV who clock es else clock
structure NearFit (es : NT) : Prop where
  val : ∀ e ∈ es, (0 ≤ e.val.1 ∧ e.val.1 ≤ 1073741824) ∧ 0 ≤ e.val.2 ∧ e.val.2 ≤ 1073741824
  len : es.length ≤ 16
  keys : (es.map (·.key)).Nodup
def goneN (pat : Int) (e : Ent Int (Int × Int)) : Prop := 0 < e.val.2 ∧ pat < e.val.2
instance (pat : Int) (e : Ent Int (Int × Int)) : Decidable (goneN pat e) := by unfold goneN; infer_instance
def tickN (pat : Int) (e : Ent Int (Int × Int)) : Ent Int (Int × Int) :=
  ⟨e.key, (if goneN pat e then e.val.1 else if e.val.2 = 0 then min (e.val.1 + 1) 1073741824 else 0, min (e.val.2 + 1) 1073741824), e.born⟩
def tickT (pat : Int) (es : NT) : NT := (es.filter fun e => ¬ goneN pat e).map (tickN pat)
end Go.Proofs.YtaanjifekgfemaaGreat.Cl
end
section
namespace Go.Proofs.YtaanjifekgfemaaGreat.Cl
open Tryz
open Go.RowKit Go.Proofs.YtaanjifekgfemaaGreat.K Go.Proofs.YtaanjifekgfemaaGreat.W
attribute [local irreducible] bound clip adds sub neg mag mulp mul maxs
theorem bd204_0 {S ρ ty} {parts : Array (Nat × Operand)} {x0 : Option Nat} (hp : (parts.toList.map fun x => (x.1, ev ρ x.2)) = [(0, Value.map x0)]) : Y Tryz.prog S ρ (.build 204 parts) ty (.agg #[Value.map x0]) :=
  Y.build hp fun w => by simp [Instr.build, go_sem]
theorem fa204_0 : FA 204 0 0 := fun _ _ => by simp [Instr.fieldAt, Instr.sureAddr, go_sem]
theorem fa289_0 : FA 289 0 0 := fun _ _ => by simp [Instr.fieldAt, Instr.sureAddr, go_sem]
theorem fa289_1 : FA 289 1 1 := fun _ _ => by simp [Instr.fieldAt, Instr.sureAddr, go_sem]
theorem keysI : Keys Tryz.prog 3 ikE := ⟨_, underlying3, fun k => by simp [ikE, Go.MapKept.IsKey], fun a b => by simp [ikE, Instr.sameNow]; rfl⟩
theorem mnew_any (w0 w : World) (F0 : List Nat) (L G : List Res) (hst : St w0 F0 w L G) :
    Calls Tryz.prog 90 #[] w fun e w' => ∃ tb mb, e = .returned (.pointer (some ⟨tb, 0, none⟩)) ∧ St w0 F0 w' (cellsR tb [.map (some mb)] 204 :: mapR ikE nrV mb ([]) (0) :: L) G := by
  refine W.func func90 rfl ntmps90 rfl<|W.sr rfl<|hst.y rfl (Y.assignP rfl)<|Ops.ds rfl rfl<|Ops.ww rfl (X.makeMap hst ikE nrV fun mb w1 hst => hst.y rfl (bd204_0 rfl)<|Ops.ww rfl (X.boxA hst rfl fun p3 w3 hst => hst.y rfl (Y.assignP rfl)<|Ops.done rfl<|W.ret rfl<|⟨_, Rslt.one results90 rfl, ?_⟩)); exact ⟨p3, mb, rfl, hst⟩
theorem hear_any2 (tb mb : Nat) (es : NT) (clock : Nat) (who : Int) (w0 w : World) (F0 : List Nat) (L G : List Res) (hst : St w0 F0 w (cellsR tb [.map (some mb)] 204 :: mapR ikE nrV mb (es) (clock) :: L) G) :
    Calls Tryz.prog 182 #[.pointer (some ⟨tb, 0, none⟩), .int .i64 who] w fun e w' => e = .returned (.int .i64 (hearErr es who)) ∧ St w0 F0 w' (cellsR tb [.map (some mb)] 204 :: mapR ikE nrV mb (hearT es who clock) (hearC es who clock) :: L) G := by
  refine W.func func182 rfl ntmps182 rfl<|W.sr rfl<|hst.y rfl (Y.assignI rfl)<|Ops.done rfl<|W.seq rfl<|W.sr rfl<|hst.y rfl (Y.moveP rfl)<|hst.y rfl (Y.isNil underlying156 rfl rfl)<|Ops.done rfl<|W.condF rfl rfl<|W.skip rfl<|W.seq rfl<|W.sr rfl<|hst.y rfl (Y.moveI rfl)<|hst.yb rfl (Y.lss rfl rfl) (fun b10 hb10 => hst.y rfl (Y.moveB rfl)<|?_); cases b10
  · replace hb10 := dF hb10; refine hst.y rfl (Y.moveI rfl)<|hst.yb rfl (Y.geq rfl rfl) (fun b13 hb13 => hst.y rfl (Y.pB rfl rfl)<|Ops.done rfl<|?_); cases b13
    · replace hb13 := dF hb13; refine W.condF rfl rfl<|W.skip rfl<|W.sr rfl<|hst.y rfl (Y.moveP rfl)<|hst.y rfl (Y.nilCheck rfl)<|hst.y rfl (Y.fieldAddr fa204_0 rfl)<|hst.y rfl (Y.load 0 isAgg202 rfl rfl rfl)<|hst.y rfl (Y.moveI rfl)<|hst.y rfl (Y.lookup keysI underlying202 zeroValue289 (z0 := (0, 0)) 1 rfl rfl rfl)<|hst.y rfl (Y.moveU rfl)<|hst.y rfl (Y.extract rfl rfl)<|hst.yb rfl (Y.cast (Y.extract rfl rfl) (boolD _)) (fun b23 hb23 => Ops.ww rfl (X.allocA hst zeroValue289 fun p5 w5 hst => Ops.ww rfl (X.storeS hst 0 sizeOf289 rfl rfl rfl rfl rfl (lZ rfl) rfl rfl fun w5_10 hst => hst.y rfl (Y.assignB rfl)<|Ops.done rfl<|W.seq rfl<|W.sr rfl<|hst.y rfl (Y.moveB rfl)<|?_))); cases b23
      · replace hb23 := dF hb23; refine hst.y rfl (Y.not rfl)<|hst.y rfl (Y.moveB rfl)<|hst.y rfl (Y.moveP rfl)<|hst.y rfl (Y.nilCheck rfl)<|hst.y rfl (Y.fieldAddr fa204_0 rfl)<|hst.y rfl (Y.load 1 isAgg202 rfl rfl rfl)<|hst.y rfl (Y.lenM underlying202 2 rfl rfl)<|hst.yb rfl (Y.eql rfl rfl) (fun b32 hb32 => hst.y rfl (Y.pB rfl rfl)<|Ops.done rfl<|?_); cases b32
        · replace hb32 := dF hb32; refine W.condF rfl rfl<|W.skip rfl<|W.sr rfl<|hst.y rfl (Y.fieldAddr fa289_1 rfl)<|Ops.ww rfl (X.storeV hst 0 (.int _ _) sizeOf3 rfl rfl rfl rfl (lZ rfl) rfl rfl fun w8_1 hst => Ops.done rfl<|W.seq rfl<|W.drawn rfl (by kernel_rfl) (Ctx _ _ (_) (_)) [6] (.op 0 0 (.op 1 0 (.op 2 0 (.op 3 0 (.op 4 0 (.op 5 0 (.op 6 1 .nil))))))) rfl (by kernel_rfl) hst.drew.ctx<|?_); replace hst := hst.drew; generalize World.drew _ = wd at hst ⊢; refine hst.z rfl (Y.moveP rfl)<|hst.z rfl (Y.nilCheck rfl)<|hst.z rfl (Y.fieldAddr fa204_0 rfl)<|hst.z rfl (Y.load 1 isAgg202 rfl rfl rfl)<|hst.z rfl (Y.moveI rfl)<|hst.z rfl (Y.loadA 0 isAgg289 sizeOf289 rfl rfl rfl rfl)<|Drw.z rfl rfl rfl rfl (X.mapUpd keysI underlying202 hst 2 rfl rfl (k := who) rfl (v := ((nearOf es who).1, 0)) rfl fun w9 hst => Drw.done<|W.sr rfl<|hst.y rfl (Y.assignI rfl)<|Ops.done rfl<|W.ret rfl<|⟨_, Rslt.one results182 rfl, ?_⟩)
          have hE : hearErr es who = 0 := by
            unfold hearErr; rw [if_neg (by omega), if_neg (fun h => hb32 (by exact_mod_cast h.2))]
          have hT : hearT es who clock = putV who ((nearOf es who).1, 0) clock es := if_pos hE; have hC : hearC es who clock = clockV who clock es := if_pos hE; exact ⟨ret_int hE.symm, by rw [hT, hC]; exact (hst.dr 1)⟩
        · replace hb32 := dT hb32; refine W.condT rfl rfl<|W.sr rfl<|hst.y rfl (Y.assignI rfl)<|Ops.done rfl<|W.ret rfl<|⟨_, Rslt.one results182 rfl, ?_⟩
          have hE : hearErr es who = 7 := by
            unfold hearErr; rw [if_neg (by omega), if_pos ⟨by cases hg : getV who es with | none => rfl | some v => rw [hg] at hb23; exact absurd rfl hb23, by exact_mod_cast hb32⟩]
          have hT : hearT es who clock = es := if_neg (by rw [hE]; decide); have hC : hearC es who clock = clock := if_neg (by rw [hE]; decide); exact ⟨ret_int hE.symm, by rw [hT, hC]; exact (hst.dr 1)⟩
      · replace hb23 := dT hb23; refine hst.y rfl (Y.not rfl)<|hst.y rfl (Y.moveB rfl)<|Ops.nn rfl<|Ops.nn rfl<|Ops.nn rfl<|Ops.nn rfl<|Ops.nn rfl<|Ops.nn rfl<|hst.y rfl (Y.pB rfl rfl)<|Ops.done rfl<|W.condF rfl rfl<|W.skip rfl<|W.sr rfl<|hst.y rfl (Y.fieldAddr fa289_1 rfl)<|Ops.ww rfl (X.storeV hst 0 (.int _ _) sizeOf3 rfl rfl rfl rfl (lZ rfl) rfl rfl fun w8_1 hst => Ops.done rfl<|W.seq rfl<|W.drawn rfl (by kernel_rfl) (Ctx _ _ (_) (_)) [6] (.op 0 0 (.op 1 0 (.op 2 0 (.op 3 0 (.op 4 0 (.op 5 0 (.op 6 1 .nil))))))) rfl (by kernel_rfl) hst.drew.ctx<|?_); replace hst := hst.drew; generalize World.drew _ = wd at hst ⊢; refine hst.z rfl (Y.moveP rfl)<|hst.z rfl (Y.nilCheck rfl)<|hst.z rfl (Y.fieldAddr fa204_0 rfl)<|hst.z rfl (Y.load 1 isAgg202 rfl rfl rfl)<|hst.z rfl (Y.moveI rfl)<|hst.z rfl (Y.loadA 0 isAgg289 sizeOf289 rfl rfl rfl rfl)<|Drw.z rfl rfl rfl rfl (X.mapUpd keysI underlying202 hst 2 rfl rfl (k := who) rfl (v := ((nearOf es who).1, 0)) rfl fun w9 hst => Drw.done<|W.sr rfl<|hst.y rfl (Y.assignI rfl)<|Ops.done rfl<|W.ret rfl<|⟨_, Rslt.one results182 rfl, ?_⟩)
        have hE : hearErr es who = 0 := by
          unfold hearErr; rw [if_neg (by omega), if_neg (fun h => by rw [h.1] at hb23; cases hb23)]
        have hT : hearT es who clock = putV who ((nearOf es who).1, 0) clock es := if_pos hE; have hC : hearC es who clock = clockV who clock es := if_pos hE; exact ⟨ret_int hE.symm, by rw [hT, hC]; exact (hst.dr 1)⟩
    · replace hb13 := dT hb13; refine W.condT rfl rfl<|W.sr rfl<|hst.y rfl (Y.assignI rfl)<|Ops.done rfl<|W.ret rfl<|⟨_, Rslt.one results182 rfl, ?_⟩
      have hE : hearErr es who = 1 := by
        unfold hearErr; rw [if_pos (by omega)]
      have hT : hearT es who clock = es := if_neg (by rw [hE]; decide); have hC : hearC es who clock = clock := if_neg (by rw [hE]; decide); exact ⟨ret_int hE.symm, by rw [hT, hC]; exact hst⟩
  · replace hb10 := dT hb10; refine Ops.nn rfl<|Ops.nn rfl<|hst.y rfl (Y.pB rfl rfl)<|Ops.done rfl<|W.condT rfl rfl<|W.sr rfl<|hst.y rfl (Y.assignI rfl)<|Ops.done rfl<|W.ret rfl<|⟨_, Rslt.one results182 rfl, ?_⟩
    have hE : hearErr es who = 1 := by
      unfold hearErr; rw [if_pos (by omega)]
    have hT : hearT es who clock = es := if_neg (by rw [hE]; decide); have hC : hearC es who clock = clock := if_neg (by rw [hE]; decide); exact ⟨ret_int hE.symm, by rw [hT, hC]; exact hst⟩
theorem age_any (tb mb : Nat) (es : NT) (clock : Nat) (who : Int) (w0 w : World) (F0 : List Nat) (L G : List Res) (hst : St w0 F0 w (cellsR tb [.map (some mb)] 204 :: mapR ikE nrV mb (es) (clock) :: L) G) :
    Calls Tryz.prog 181 #[.pointer (some ⟨tb, 0, none⟩), .int .i64 who] w fun e w' => ∃ b, e = .returned (.tuple #[.int .i64 (nearOf es who).1, .bool b]) ∧ St w0 F0 w' (cellsR tb [.map (some mb)] 204 :: mapR ikE nrV mb (es) (clock) :: L) G := by
  refine W.func func181 rfl ntmps181 rfl<|W.sr rfl<|hst.y rfl (Y.assignI rfl)<|hst.y rfl (Y.assignB rfl)<|Ops.done rfl<|W.seq rfl<|W.sr rfl<|hst.y rfl (Y.moveP rfl)<|hst.y rfl (Y.isNil underlying156 rfl rfl)<|Ops.done rfl<|W.condF rfl rfl<|W.skip rfl<|W.sr rfl<|hst.y rfl (Y.moveP rfl)<|hst.y rfl (Y.nilCheck rfl)<|hst.y rfl (Y.fieldAddr fa204_0 rfl)<|hst.y rfl (Y.load 0 isAgg202 rfl rfl rfl)<|hst.y rfl (Y.moveI rfl)<|hst.y rfl (Y.lookup keysI underlying202 zeroValue289 (z0 := (0, 0)) 1 rfl rfl rfl)<|hst.y rfl (Y.moveU rfl)<|hst.y rfl (Y.extract rfl rfl)<|hst.yb rfl (Y.cast (Y.extract rfl rfl) (boolD _)) (fun b18 hb18 => Ops.ww rfl (X.allocA hst zeroValue289 fun p6 w6 hst => Ops.ww rfl (X.storeS hst 0 sizeOf289 rfl rfl rfl rfl rfl (lZ rfl) rfl rfl fun w3_10 hst => hst.y rfl (Y.assignB rfl)<|Ops.ds rfl rfl<|hst.y rfl (Y.fieldAddr fa289_0 rfl)<|hst.y rfl (Y.load 0 isAgg3 rfl rfl rfl)<|hst.y rfl (Y.moveB rfl)<|hst.y rfl (Y.assignI rfl)<|hst.y rfl (Y.assignB rfl)<|Ops.done rfl<|W.ret rfl<|⟨_, Rslt.two results181 rfl rfl, ?_⟩))); exact ⟨_, rfl, (hst.dr 1)⟩
end Go.Proofs.YtaanjifekgfemaaGreat.Cl
end
section
namespace Go.Proofs.YtaanjifekgfemaaGreat.Cl
open Tryz
open Go.RowKit Go.Proofs.YtaanjifekgfemaaGreat.K Go.Proofs.YtaanjifekgfemaaGreat.W
def midN (pat : Int) (seen : List Nat) (e : Ent Int (Int × Int)) : Ent Int (Int × Int) := if e.born ∈ seen then tickN pat e else e
def midT (pat : Int) (seen : List Nat) (es : NT) : NT := es.map (midN pat seen)
theorem tickN_key (pat : Int) (e : Ent Int (Int × Int)) : (tickN pat e).key = e.key ∧ (tickN pat e).born = e.born := ⟨rfl, rfl⟩
theorem midN_key (pat : Int) (seen : List Nat) (e : Ent Int (Int × Int)) : (midN pat seen e).key = e.key ∧ (midN pat seen e).born = e.born := by unfold midN; split <;> exact ⟨rfl, rfl⟩
theorem midT_nil (pat : Int) (es : NT) : midT pat [] es = es := by
  unfold midT
  conv => rhs; rw [← List.map_id es]
  refine List.map_congr_left fun e _ => ?_; simp [midN]
theorem midT_all {pat : Int} {seen : List Nat} {es : NT} (h : ∀ e ∈ midT pat seen es, e.born ∈ seen) : midT pat seen es = es.map (tickN pat) := by
  refine List.map_congr_left fun e he => ?_; have h2 := h _ (List.mem_map_of_mem he); rw [(midN_key pat seen e).2] at h2; exact if_pos h2
theorem midT_mem {pat : Int} {seen : List Nat} {es : NT} {e : Ent Int (Int × Int)} (h : e ∈ midT pat seen es) (hn : e.born ∉ seen) : e ∈ es := by
  obtain ⟨y, hy, rfl⟩ := List.mem_map.1 h; rw [(midN_key pat seen y).2] at hn; unfold midN; rw [if_neg hn]; exact hy
theorem inj_of_nodup {α β : Type} {f : α → β} {l : List α} (h : (l.map f).Nodup) {a b : α} (ha : a ∈ l) (hb : b ∈ l) (e : f a = f b) : a = b := by
  induction l with
  | nil => cases ha
  | cons x l ih =>
    rw [List.map_cons, List.nodup_cons] at h; rcases List.mem_cons.1 ha with ha1 | ha <;> rcases List.mem_cons.1 hb with hb1 | hb
    · rw [ha1, hb1]
    · exact absurd (List.mem_map.2 ⟨b, hb, by rw [← e, ha1]⟩) h.1
    · exact absurd (List.mem_map.2 ⟨a, ha, by rw [e, hb1]⟩) h.1
    · exact ih h.2 ha hb
theorem nodup_len {α : Type} [DecidableEq α] {s bs : List α} (h : s.Nodup) (hs : ∀ x ∈ s, x ∈ bs) : s.length ≤ bs.length := by
  induction s generalizing bs with
  | nil => simp
  | cons x s ih =>
    rw [List.nodup_cons] at h; have h1 := hs x (by simp); have h2 := ih (bs := bs.erase x) h.2 (fun y hy => (List.mem_erase_of_ne (by rintro rfl; exact h.1 hy)).2 (hs y (by simp [hy]))); rw [List.length_erase_of_mem h1] at h2; have := List.length_pos_of_mem h1; simp only [List.length_cons]; omega
theorem getV_mem {es : NT} {e : Ent Int (Int × Int)} (h : e ∈ es) (hk : (es.map (·.key)).Nodup) : getV e.key es = some e.val := by
  induction es with
  | nil => cases h
  | cons x es ih =>
    rw [List.map_cons, List.nodup_cons] at hk; unfold getV; rcases List.mem_cons.1 h with rfl | h
    · rw [if_pos rfl]
    · rw [if_neg (fun e' : e.key = x.key => hk.1 (by rw [← e']; exact List.mem_map_of_mem h))]; exact ih h hk.2
theorem setV_map {es : NT} {e : Ent Int (Int × Int)} (h : e ∈ es) (hk : (es.map (·.key)).Nodup) (v : Int × Int) : setV e.key v es = es.map fun y => if y.key = e.key then ⟨y.key, v, y.born⟩ else y := by
  induction es with
  | nil => cases h
  | cons x es ih =>
    rw [List.map_cons, List.nodup_cons] at hk; unfold setV; rw [List.map_cons]
    by_cases hx : e.key = x.key
    · rw [if_pos hx, if_pos hx.symm]
      congr 1
      conv => lhs; rw [← List.map_id es]
      refine List.map_congr_left fun y hy => ?_; rw [if_neg (fun e' => hk.1 (by rw [← hx, ← e']; exact List.mem_map_of_mem hy))]; rfl
    · rw [if_neg hx, if_neg (Ne.symm hx)]
      congr 1
      rcases List.mem_cons.1 h with rfl | h
      · exact absurd rfl hx
      · exact ih h hk.2
theorem midT_keys (pat : Int) (seen : List Nat) (es : NT) : (midT pat seen es).map (·.key) = es.map (·.key) := by
  unfold midT; rw [List.map_map]; exact List.map_congr_left fun e _ => (midN_key pat seen e).1
theorem putV_mid {pat : Int} {seen : List Nat} {es : NT} {e : Ent Int (Int × Int)} (h : e ∈ es) (hn : e.born ∉ seen) (hk : (es.map (·.key)).Nodup) (hb : (es.map (·.born)).Nodup) (clock : Nat) :
    putV e.key (tickN pat e).val clock (midT pat seen es) = midT pat (seen ++ [e.born]) es ∧ clockV e.key clock (midT pat seen es) = clock := by
  have hm : e ∈ midT pat seen es := List.mem_map.2 ⟨e, h, if_neg hn⟩; have hk2 : ((midT pat seen es).map (·.key)).Nodup := by rw [midT_keys]; exact hk
  have hg := getV_mem hm hk2; unfold putV clockV; rw [hg]; refine ⟨?_, rfl⟩; dsimp only; rw [setV_map hm hk2]; unfold midT; rw [List.map_map]; refine List.map_congr_left fun y hy => ?_; simp only [Function.comp_apply, (midN_key pat seen y).1]
  have inj : y.key = e.key ↔ y = e := by
    constructor
    · intro hyk; exact inj_of_nodup hk hy h hyk
    · rintro rfl; rfl
  by_cases hy1 : y = e
  · subst hy1; rw [if_pos rfl]; unfold midN; rw [if_neg hn, if_pos (by simp)]; rfl
  · rw [if_neg (fun e' => hy1 (inj.1 e'))]; have hbn : y.born ≠ e.born := fun e' => hy1 (inj_of_nodup hb hy h e'); unfold midN
    by_cases hs : y.born ∈ seen
    · rw [if_pos hs, if_pos (by simp [hs])]
    · rw [if_neg hs, if_neg (by simp [hs, hbn])]
theorem delV_filter {es : NT} (k : Int) (hk : (es.map (·.key)).Nodup) : delV k es = es.filter fun e => e.key ≠ k := by
  induction es with
  | nil => rfl
  | cons x es ih =>
    rw [List.map_cons, List.nodup_cons] at hk; unfold delV
    by_cases hx : k = x.key
    · rw [if_pos hx, List.filter_cons_of_neg (by simp [hx])]; rw [List.filter_eq_self.2]; intro y hy; simp only [ne_eq, decide_eq_true_eq]; intro e; exact hk.1 (by rw [← hx, ← e]; exact List.mem_map_of_mem hy)
    · rw [if_neg hx, List.filter_cons_of_pos (by simpa using Ne.symm hx), ih hk.2]
theorem delAll {es : NT} (gs : List Int) (hk : (es.map (·.key)).Nodup) : gs.foldl (fun m k => delV k m) es = es.filter fun e => e.key ∉ gs := by
  induction gs generalizing es with
  | nil => simp only [List.foldl_nil]; exact (List.filter_eq_self.2 (fun e _ => by simp)).symm
  | cons k gs ih =>
    rw [List.foldl_cons, delV_filter k hk, ih ((List.filter_sublist.map _).nodup hk), List.filter_filter]; refine List.filter_congr fun e _ => ?_; simp only [List.mem_cons, not_or, ne_eq, Bool.decide_and]; rw [Bool.and_comm]
theorem tickT_of {pat : Int} {es : NT} {gs : List Int} (hk : (es.map (·.key)).Nodup) (hg : ∀ e ∈ es, e.key ∈ gs ↔ goneN pat e) : gs.foldl (fun m k => delV k m) (es.map (tickN pat)) = tickT pat es := by
  rw [delAll gs (by rw [List.map_map]; exact hk)]; unfold tickT; rw [List.filter_map]
  congr 1
  refine List.filter_congr fun e he => ?_; simp only [Function.comp_apply]; have := hg e he
  by_cases h : goneN pat e
  · simp [h, this.2 h, (tickN_key pat e).1]
  · have h2 : e.key ∉ gs := fun x => h (this.1 x); simp [h, h2, (tickN_key pat e).1]
theorem gone_step {pat : Int} {seen : List Nat} {es : NT} {gs : List Int} {e : Ent Int (Int × Int)} (he : e ∈ es) (hn : e.born ∉ seen) (hk : (es.map (·.key)).Nodup) (hb : (es.map (·.born)).Nodup) (h : ∀ y ∈ es, y.key ∈ gs ↔ (y.born ∈ seen ∧ goneN pat y)) :
    ∀ y ∈ es, y.key ∈ (if goneN pat e then gs ++ [e.key] else gs) ↔ (y.born ∈ seen ++ [e.born] ∧ goneN pat y) := by
  intro y hy; have h1 := h y hy
  by_cases hye : y = e
  · subst hye
    by_cases hg : goneN pat y
    · rw [if_pos hg]; simp [hg]
    · rw [if_neg hg, h1]; simp [hg]
  · have hkne : y.key ≠ e.key := fun x => hye (inj_of_nodup hk hy he x); have hbne : y.born ≠ e.born := fun x => hye (inj_of_nodup hb hy he x)
    by_cases hg : goneN pat e
    · rw [if_pos hg]; simp only [List.mem_append, List.mem_singleton, hkne, hbne, or_false]; exact h1
    · rw [if_neg hg]; simp only [List.mem_append, List.mem_singleton, hbne, or_false]; exact h1
theorem seen_len {seen : List Nat} {es : NT} {b : Nat} (h1 : seen.Nodup) (h2 : ∀ b ∈ seen, b ∈ es.map (·.born)) (hb : b ∈ es.map (·.born)) (hn : b ∉ seen) : (seen ++ [b]).Nodup ∧ (∀ x ∈ seen ++ [b], x ∈ es.map (·.born)) ∧ seen.length + 1 ≤ es.length := by
  have a1 : (seen ++ [b]).Nodup := by
    rw [List.nodup_append]; exact ⟨h1, by simp, fun x hx y hy => by rw [List.mem_singleton] at hy; subst hy; rintro rfl; exact hn hx⟩
  have a2 : ∀ x ∈ seen ++ [b], x ∈ es.map (·.born) := by
    intro x hx; rcases List.mem_append.1 hx with hx | hx
    · exact h2 x hx
    · rw [List.mem_singleton] at hx; subst hx; exact hb
  have := nodup_len a1 a2; simp at this; exact ⟨a1, a2, this⟩
end Go.Proofs.YtaanjifekgfemaaGreat.Cl
end
section
namespace Go.Proofs.YtaanjifekgfemaaGreat.Cl
open Tryz
open Go.RowKit Go.Proofs.YtaanjifekgfemaaGreat.K Go.Proofs.YtaanjifekgfemaaGreat.W
attribute [local irreducible] bound clip adds sub neg mag mulp mul maxs
theorem cf150 : CF 150 := fun _ _ => by simp [go_sem]
set_option maxHeartbeats 1000000 in
theorem tick_any2 (tb mb : Nat) (es : NT) (clock : Nat) (pat : Int) (hf : NearFit es) (w0 w : World) (F0 : List Nat) (L G : List Res) (hst : St w0 F0 w (cellsR tb [.map (some mb)] 204 :: mapR ikE nrV mb (es) (clock) :: L) G) :
    Calls Tryz.prog 175 #[.pointer (some ⟨tb, 0, none⟩), .int .i64 pat] w fun e w' => ∃ v, e = .returned v ∧ St w0 F0 w' (cellsR tb [.map (some mb)] 204 :: mapR ikE nrV mb (tickT pat es) (clock) :: L) G := by
  refine W.func func175 rfl ntmps175 rfl<|W.sr rfl<|hst.y rfl (Y.assignS rfl)<|Ops.ds rfl rfl<|hst.y rfl (Y.assignS rfl)<|Ops.done rfl<|W.seq rfl<|W.sr rfl<|hst.y rfl (Y.moveP rfl)<|hst.y rfl (Y.isNil underlying156 rfl rfl)<|Ops.done rfl<|W.condF rfl rfl<|W.skip rfl<|W.seq rfl<|W.sr rfl<|?_; replace hst := hst.nilRow 3 1; have hmr : (es.map (·.born)).Nodup := (hst.res _ (.tail _ (.tail _ (.head _)))).2.2; refine hst.y rfl (Y.moveP rfl)<|hst.y rfl (Y.nilCheck rfl)<|hst.y rfl (Y.fieldAddr fa204_0 rfl)<|hst.y rfl (Y.load 1 isAgg202 rfl rfl rfl)<|Ops.ww rfl (X.range underlying202 hst 2 rfl rfl fun p16 w16 hst => Ops.done rfl<|W.block rfl<|?_); refine W.loop (γ := List Nat × List Int × (Option Addr × Nat)) [(0, .pointer _), (1, .int _ _), (16, .pointer _)] (fun x => [(5, .slice x.2.2.1 x.2.1.length x.2.2.2)]) (fun x w => ((x.1.Nodup ∧ (∀ b ∈ x.1, b ∈ es.map (·.born))) ∧ x.2.1.length ≤ x.1.length ∧ ∀ y ∈ es, y.key ∈ x.2.1 ↔ (y.born ∈ x.1 ∧ goneN pat y)) ∧ St w0 F0 w (iterR p16 mb clock (x.1) clock :: rowR (.slice x.2.2.1 (x.2.1).length x.2.2.2) 3 1 (x.2.1).length (ivs (x.2.1)) :: cellsR tb [.map (some mb)] 204 :: mapR ikE nrV mb (midT pat x.1 es) clock :: L) G) (fun x => es.length - x.1.length) (([], [], (none, 0))) rfl ⟨rfl, rfl, rfl, trivial⟩ ?_ ?_ ?_
  · exact ⟨rfl, trivial⟩
  · exact ⟨⟨⟨List.nodup_nil, by simp⟩, Nat.le_refl _, by simp⟩, by rw [midT_nil]; exact hst⟩
  · clear hst; rintro ⟨seen, gs, ⟨A5, c5⟩⟩ j w5 ⟨⟨⟨hs1, hs2⟩, hs3, hs4⟩, hst⟩; dsimp only at hs1 hs2 hs3 hs4; have hgl : (seen, gs, A5, c5).snd.fst.length = gs.length := rfl
    have hgs16 : gs.length ≤ 16 := by
      have h1 := nodup_len hs1 hs2; rw [List.length_map] at h1; have h2 := hf.len; omega
    refine W.sr rfl<|Ops.ww rfl (X.nextO hst 0 3 rfl rfl rfl (Nat.le_refl _) (Nat.le_refl _) fun o w17 ho hst => ?_); rcases o with _ | e
    · skip
      refine hst.y rfl (Y.extract rfl rfl)<|Ops.done rfl<|W.seq rfl<|W.condF rfl rfl<|W.exit rfl<|W.seq rfl<|W.sr rfl<|hst.y rfl (Y.moveS rfl)<|hst.y rfl (Y.lenS underlying24 rfl)<|hst.y rfl (Y.moveI rfl)<|Ops.done rfl<|W.block rfl<|?_; refine W.loop (γ := Nat) [(0, .pointer _), (5, .slice _ _ _), (57, .slice _ _ _), (58, .int _ _)] (fun k => [(59, .int .i64 (k : Int))]) (fun k w => k ≤ gs.length ∧ St w0 F0 w (rowR (.slice A5 (gs).length c5) 3 1 (gs).length (ivs (gs)) :: cellsR tb [.map (some mb)] 204 :: mapR ikE nrV mb ((gs.take k).foldl (fun m k => delV k m) (es.map (tickN pat))) clock :: L) G) (fun k => gs.length - k) (0) rfl ⟨rfl, rfl, rfl, rfl, trivial⟩ ?_ ?_ ?_
      · exact ⟨rfl, trivial⟩
      · have ho2 : ∀ e ∈ midT pat seen es, e.born ∈ seen := ho; have hst3 := hst.dr 1; rw [midT_all ho2] at hst3; exact ⟨Nat.zero_le _, hst3⟩
      · clear hst; rintro k j w15 ⟨hk, hst⟩; refine W.sr rfl<|hst.yb rfl (Y.lss rfl rfl) (fun b60 hb60 => Ops.done rfl<|W.seq rfl<|?_); cases b60
        · replace hb60 := dF hb60; refine W.condF rfl rfl<|W.exit rfl<|W.seq rfl<|?_; obtain rfl : k = gs.length := by omega
          refine W.region rfl<|hst.y rfl (Y.moveS rfl)<|Ops.ww rfl (X.ret cf150 (sort_any gs _ rfl (by omega) A5 c5 _ _ _ _ _ hst) rfl fun w70 hst => Ops.ds rfl rfl<|hst.y rfl (Y.moveS rfl)<|hst.y rfl (Y.assignS rfl)<|Ops.done rfl<|W.ret rfl<|⟨_, Rslt.one results175 rfl, ?_⟩); have e4 := tickT_of (pat := pat) (gs := gs) hf.keys (fun y hy => (hs4 y hy).trans ⟨fun h => h.2, fun h => ⟨by have h5 := ho _ (List.mem_map_of_mem (f := midN pat seen) hy); rwa [(midN_key pat seen y).2] at h5, h⟩⟩); rw [List.take_length, e4] at hst; exact ⟨_, rfl, hst⟩
        · replace hb60 := dT hb60; refine W.condT rfl rfl<|W.skip rfl<|W.seq rfl<|W.block rfl<|W.seq rfl<|?_; have hk1 : k < gs.length := by omega
          refine W.region rfl<|hst.y rfl (Y.indexAddr underlying24 sizeOf3 rfl rfl ((Rds.sl (Rds.rowL 0 (by rfl)) hst).ne (by simp [ivs]; omega)) (by omega))<|?_; refine hst.y rfl (Y.loadSl isAgg3 rfl (Rds.rowL 0 rfl) (ivs_get (l := gs) hk1))<|hst.y rfl (Y.assignI rfl)<|Ops.done rfl<|W.region rfl<|hst.y rfl (Y.moveP rfl)<|hst.y rfl (Y.nilCheck rfl)<|hst.y rfl (Y.fieldAddr fa204_0 rfl)<|hst.y rfl (Y.load 1 isAgg202 rfl rfl rfl)<|hst.y rfl (Y.moveI rfl)<|Ops.ww rfl (X.mapDel keysI underlying202 hst 2 rfl rfl (k := gs.getD k 0) rfl fun w17 hst => Ops.done rfl<|W.region rfl<|hst.y rfl (Y.addI rfl rfl (by omega))<|hst.y rfl (Y.moveI rfl)<|Ops.done rfl<|?_); have e3 : gs.getD k 0 = gs[k] := by simp [hk1]
          have hst2 := hst; rw [e3] at hst2; refine ⟨k + 1, ⟨rfl, trivial⟩, ⟨rfl, rfl, rfl, rfl, trivial⟩, ⟨by omega, ?_⟩, by omega⟩; rw [List.take_succ_eq_append_getElem hk1, List.foldl_append]; exact hst2
    · have he := midT_mem ho.1 ho.2; have hv := hf.val e he; have hsl := seen_len hs1 hs2 (List.mem_map_of_mem he) ho.2; have hlen := hf.len; refine hst.y rfl (Y.extract rfl rfl)<|Ops.done rfl<|W.seq rfl<|W.condT rfl rfl<|W.skip rfl<|W.block rfl<|W.sr rfl<|hst.y rfl (Y.entry 0 3 rfl rfl rfl ho.1)<|hst.y rfl (Y.extract rfl rfl)<|hst.y rfl (Y.extract rfl rfl)<|Ops.ww rfl (X.allocA hst zeroValue289 fun p7 w7 hst => hst.y rfl (Y.assignI rfl)<|Ops.ww rfl (X.storeS hst 0 sizeOf289 rfl rfl rfl rfl rfl (lZ rfl) rfl rfl fun w6_5 hst => Ops.done rfl<|W.seq rfl<|?_)); refine W.cut [(0, .pointer _), (1, .int _ _), (6, .int _ _), (7, .pointer _), (16, .pointer _)] (fun x : List Int × (Option Addr × Nat) => [(5, .slice x.2.1 x.1.length x.2.2)]) (fun x w => x.1 = (if goneN pat e then gs ++ [e.key] else gs) ∧ St w0 F0 w (cellsR p7 [.int .i64 (tickN pat e).val.1, .int .i64 e.val.2] 289 :: iterR p16 mb clock (seen ++ [e.born]) clock :: rowR (.slice x.2.1 (x.1).length x.2.2) 3 1 (x.1).length (ivs (x.1)) :: cellsR tb [.map (some mb)] 204 :: mapR ikE nrV mb (midT pat seen es) clock :: L) G) ⟨rfl, rfl, rfl, rfl, rfl, trivial⟩ ?_ ?_
      rotate_left
      · clear hst; rintro ⟨gs', ⟨A6, c6⟩⟩ j w7 ⟨hgs, hst⟩; refine W.sr rfl<|hst.y rfl (Y.fieldAddr fa289_1 rfl)<|hst.y rfl (Y.load 0 isAgg3 rfl rfl rfl)<|hst.y rfl (Y.addI rfl rfl (by omega))<|hst.y rfl (Y.min2 rfl rfl)<|hst.y rfl (Y.fieldAddr fa289_1 rfl)<|Ops.ww rfl (X.storeV hst 0 (.int _ _) sizeOf3 rfl rfl rfl rfl (lZ rfl) rfl rfl fun w12_5 hst => Ops.done rfl<|W.drawn rfl (by kernel_rfl) (Ctx _ _ (_) (_)) [6] (.op 0 0 (.op 1 0 (.op 2 0 (.op 3 0 (.op 4 0 (.op 5 0 (.op 6 1 .nil))))))) rfl (by kernel_rfl) hst.drew.ctx<|?_); replace hst := hst.drew; generalize World.drew _ = wd at hst ⊢; refine hst.z rfl (Y.moveP rfl)<|hst.z rfl (Y.nilCheck rfl)<|hst.z rfl (Y.fieldAddr fa204_0 rfl)<|hst.z rfl (Y.load 3 isAgg202 rfl rfl rfl)<|hst.z rfl (Y.moveI rfl)<|hst.z rfl (Y.loadA 0 isAgg289 sizeOf289 rfl rfl rfl rfl)<|Drw.z rfl rfl rfl rfl (X.mapUpd keysI underlying202 hst 4 rfl rfl (k := e.key) rfl (v := (tickN pat e).val) rfl fun w13 hst => Drw.done<|?_); have hp := putV_mid (pat := pat) he ho.2 hf.keys hmr clock; have hst2 := (hst.dr 1); rw [hp.1, hp.2] at hst2; refine ⟨(seen ++ [e.born], gs', (A6, c6)), ⟨rfl, trivial⟩, ⟨rfl, rfl, rfl, trivial⟩, ⟨⟨⟨hsl.1, hsl.2.1⟩, ?_, ?_⟩, hst2⟩, ?_⟩
        · dsimp only at hgs ⊢; rw [hgs]; split <;> simp <;> omega
        · dsimp only at hgs ⊢; rw [hgs]; exact gone_step he ho.2 hf.keys hmr hs4
        · simp only [List.length_append, List.length_cons, List.length_nil]; omega
      refine W.block rfl<|W.sr rfl<|hst.y rfl (Y.fieldAddr fa289_1 rfl)<|hst.y rfl (Y.load 0 isAgg3 rfl rfl rfl)<|hst.yb rfl (Y.gtr rfl rfl) (fun b26 hb26 => hst.y rfl (Y.moveB rfl)<|?_); cases b26
      · replace hb26 := dF hb26; refine Ops.nn rfl<|Ops.nn rfl<|Ops.nn rfl<|Ops.nn rfl<|hst.y rfl (Y.pB rfl rfl)<|hst.y rfl (Y.assignB rfl)<|Ops.done rfl<|W.condF rfl rfl<|W.sr rfl<|hst.y rfl (Y.fieldAddr fa289_1 rfl)<|hst.y rfl (Y.load 0 isAgg3 rfl rfl rfl)<|hst.yb rfl (Y.eql rfl rfl) (fun b40 hb40 => hst.y rfl (Y.assignB rfl)<|Ops.done rfl<|?_); cases b40
        · replace hb40 := dF hb40; refine W.condF rfl rfl<|W.region rfl<|hst.y rfl (Y.fieldAddr fa289_0 rfl)<|Ops.ww rfl (X.storeV hst 0 (.int _ _) sizeOf3 rfl rfl rfl rfl (lZ rfl) rfl rfl fun w7_1 hst => Ops.done rfl<|?_); have hg : ¬ goneN pat e := fun h => (by have h1 := h.1; have h2 := h.2; omega)
          have ha : (tickN pat e).val.1 = 0 := by
            show (if goneN pat e then _ else _) = _; rw [if_neg hg, if_neg (by omega)]
          exact ⟨(gs, (A5, c5)), ⟨rfl, trivial⟩, ⟨rfl, rfl, rfl, rfl, rfl, trivial⟩, (if_neg hg).symm, by rw [ha]; exact hst⟩
        · replace hb40 := dT hb40; refine W.condT rfl rfl<|W.region rfl<|hst.y rfl (Y.fieldAddr fa289_0 rfl)<|hst.y rfl (Y.load 0 isAgg3 rfl rfl rfl)<|hst.y rfl (Y.addI rfl rfl (by omega))<|hst.y rfl (Y.min2 rfl rfl)<|hst.y rfl (Y.fieldAddr fa289_0 rfl)<|Ops.ww rfl (X.storeV hst 0 (.int _ _) sizeOf3 rfl rfl rfl rfl (lZ rfl) rfl rfl fun w11_5 hst => Ops.done rfl<|?_); have hg : ¬ goneN pat e := fun h => (by have h1 := h.1; have h2 := h.2; omega)
          have ha : (tickN pat e).val.1 = min (e.val.1 + 1) 1073741824 := by
            show (if goneN pat e then _ else _) = _; rw [if_neg hg, if_pos (by omega)]
          exact ⟨(gs, (A5, c5)), ⟨rfl, trivial⟩, ⟨rfl, rfl, rfl, rfl, rfl, trivial⟩, (if_neg hg).symm, by rw [ha]; exact hst⟩
      · replace hb26 := dT hb26; refine hst.y rfl (Y.fieldAddr fa289_1 rfl)<|hst.y rfl (Y.load 0 isAgg3 rfl rfl rfl)<|hst.y rfl (Y.moveI rfl)<|hst.yb rfl (Y.gtr rfl rfl) (fun b31 hb31 => hst.y rfl (Y.pB rfl rfl)<|hst.y rfl (Y.assignB rfl)<|Ops.done rfl<|?_); cases b31
        · replace hb31 := dF hb31; refine W.condF rfl rfl<|W.sr rfl<|hst.y rfl (Y.fieldAddr fa289_1 rfl)<|hst.y rfl (Y.load 0 isAgg3 rfl rfl rfl)<|hst.yb rfl (Y.eql rfl rfl) (fun b40 hb40 => hst.y rfl (Y.assignB rfl)<|Ops.done rfl<|?_); cases b40
          · replace hb40 := dF hb40; refine W.condF rfl rfl<|W.region rfl<|hst.y rfl (Y.fieldAddr fa289_0 rfl)<|Ops.ww rfl (X.storeV hst 0 (.int _ _) sizeOf3 rfl rfl rfl rfl (lZ rfl) rfl rfl fun w7_1 hst => Ops.done rfl<|?_); have hg : ¬ goneN pat e := fun h => (by have h1 := h.1; have h2 := h.2; omega)
            have ha : (tickN pat e).val.1 = 0 := by
              show (if goneN pat e then _ else _) = _; rw [if_neg hg, if_neg (by omega)]
            exact ⟨(gs, (A5, c5)), ⟨rfl, trivial⟩, ⟨rfl, rfl, rfl, rfl, rfl, trivial⟩, (if_neg hg).symm, by rw [ha]; exact hst⟩
          · replace hb40 := dT hb40; refine W.condT rfl rfl<|W.region rfl<|hst.y rfl (Y.fieldAddr fa289_0 rfl)<|hst.y rfl (Y.load 0 isAgg3 rfl rfl rfl)<|hst.y rfl (Y.addI rfl rfl (by omega))<|hst.y rfl (Y.min2 rfl rfl)<|hst.y rfl (Y.fieldAddr fa289_0 rfl)<|Ops.ww rfl (X.storeV hst 0 (.int _ _) sizeOf3 rfl rfl rfl rfl (lZ rfl) rfl rfl fun w11_5 hst => Ops.done rfl<|?_); have hg : ¬ goneN pat e := fun h => (by have h1 := h.1; have h2 := h.2; omega)
            have ha : (tickN pat e).val.1 = min (e.val.1 + 1) 1073741824 := by
              show (if goneN pat e then _ else _) = _; rw [if_neg hg, if_pos (by omega)]
            exact ⟨(gs, (A5, c5)), ⟨rfl, trivial⟩, ⟨rfl, rfl, rfl, rfl, rfl, trivial⟩, (if_neg hg).symm, by rw [ha]; exact hst⟩
        · replace hb31 := dT hb31; refine W.condT rfl rfl<|W.region rfl<|hst.y rfl (Y.moveS rfl)<|hst.y rfl (Y.moveI rfl)<|Ops.ww rfl (X.lits hst underlying24 sizeOf3 zeroValue3 (by rfl) (by rfl) (by rfl) [.int _ _] (by rfl) (by rfl) fun p35 w35 hst => ?_); refine Ops.ww rfl (X.app hst 3 0 underlying24 info3 rfl rfl rfl rfl rfl rfl rfl rfl (by unfold maxLen; omega) (by omega) fun A36 c36 w36 hst => ?_); refine hst.y rfl (Y.assignS rfl)<|Ops.done rfl<|?_; have hg : goneN pat e := ⟨hb26, hb31⟩; have ha : (tickN pat e).val.1 = e.val.1 := if_pos hg; refine ⟨(gs ++ [e.key], (A36, c36)), ⟨?_, trivial⟩, ⟨rfl, rfl, rfl, rfl, rfl, trivial⟩, (if_pos hg).symm, ?_⟩
          · simp; rfl
          · rw [ha, show (gs ++ [e.key]).length = gs.length + 1 by simp, show ivs (gs ++ [e.key]) = ivs gs ++ [.int .i64 e.key] by unfold ivs; rw [List.map_append]; rfl]; exact (hst.dr 1)
end Go.Proofs.YtaanjifekgfemaaGreat.Cl
end
section
namespace Go.Proofs.YtaanjifekgfemaaGreat.Cl
open Tryz
open Go.RowKit Go.Proofs.YtaanjifekgfemaaGreat.K Go.Proofs.YtaanjifekgfemaaGreat.W
structure KS where
  es : NT
  clock : Nat
  out : List Hd
def knSkip (me : Int) (k : KS) (h : Hd) : Prop := (∃ x ∈ k.out, decide (x.m.from_ = h.m.from_) = true) ∨ h.m.from_ = me
instance (me : Int) (k : KS) (h : Hd) : Decidable (knSkip me k h) := by unfold knSkip; infer_instance
def knE (me : Int) (k : KS) (h : Hd) : NT := if knSkip me k h then k.es else hearT k.es h.m.from_ k.clock
def knC (me : Int) (k : KS) (h : Hd) : Nat := if knSkip me k h then k.clock else hearC k.es h.m.from_ k.clock
def knGo (me : Int) (k : KS) (h : Hd) : Prop := ¬ knSkip me k h ∧ hearErr k.es h.m.from_ = 0
instance (me : Int) (k : KS) (h : Hd) : Decidable (knGo me k h) := by unfold knGo; infer_instance
def knTake (age : Int) (h : Hd) : Prop := (h.m.kind = 1 ∧ h.m.from_ < 16) ∨ (h.m.kind = 2 ∧ 16 ≤ h.m.from_ ∧ 0 < age)
instance (age : Int) (h : Hd) : Decidable (knTake age h) := by unfold knTake; infer_instance
def knStep (me : Int) (k : KS) (h : Hd) : KS := ⟨knE me k h, knC me k h, if knGo me k h ∧ knTake (nearOf k.es h.m.from_).1 h then k.out ++ [h] else k.out⟩
def knownF (me : Int) (k0 : KS) (l : List Hd) : KS := l.foldl (knStep me) k0
theorem knownF_snoc (me : Int) (k0 : KS) (l : List Hd) (k : Nat) (h : k < l.length) : knownF me k0 (l.take (k + 1)) = knStep me (knownF me k0 (l.take k)) l[k] := by
  unfold knownF; rw [List.take_succ_eq_append_getElem h, List.foldl_append]; rfl
theorem knownF_sublist (me : Int) (k0 : KS) (l : List Hd) (h0 : k0.out = []) : (knownF me k0 l).out.Sublist l := by
  unfold knownF
  have : ∀ (l pre : List Hd) (k : KS), k.out.Sublist pre → (l.foldl (knStep me) k).out.Sublist (pre ++ l) := by
    intro l
    induction l with
    | nil => intro pre k h; simpa using h
    | cons x l ih =>
      intro pre k h
      have h2 : (knStep me k x).out.Sublist (pre ++ [x]) := by
        simp only [knStep]; split
        · exact List.Sublist.append h (.refl _)
        · exact h.trans (List.sublist_append_left _ _)
      have := ih (pre ++ [x]) _ h2; simpa using this
  simpa using this l [] k0 (by rw [h0]; exact .refl _)
theorem getV_none {es : NT} {k : Int} (h : getV k es = none) : ∀ e ∈ es, e.key ≠ k := by
  induction es with
  | nil => simp
  | cons x es ih =>
    unfold getV at h; split at h
    · cases h
    · rename_i hx; intro e he; rcases List.mem_cons.1 he with rfl | he
      · exact Ne.symm hx
      · exact ih h e he
theorem getV_some {es : NT} {k : Int} {v : Int × Int} (h : getV k es = some v) : ∃ e ∈ es, e.key = k ∧ e.val = v := by
  induction es with
  | nil => cases h
  | cons x es ih =>
    unfold getV at h; split at h
    · rename_i hx; injection h with h; exact ⟨x, List.mem_cons_self, hx.symm, h⟩
    · obtain ⟨e, he, h2⟩ := ih h; exact ⟨e, List.mem_cons_of_mem _ he, h2⟩
theorem NearFit.near {es : NT} (h : NearFit es) (k : Int) : (0 ≤ (nearOf es k).1 ∧ (nearOf es k).1 ≤ 1073741824) ∧ 0 ≤ (nearOf es k).2 ∧ (nearOf es k).2 ≤ 1073741824 := by
  unfold nearOf
  cases hg : getV k es with
  | none => decide
  | some v =>
    obtain ⟨e, he, _, rfl⟩ := getV_some hg; exact h.val e he
theorem NearFit.hear {es : NT} (h : NearFit es) (who : Int) (clock : Nat) : NearFit (hearT es who clock) := by
  unfold hearT; split
  · rename_i h0; have hn := h.near who; unfold putV
    cases hg : getV who es with
    | some v =>
      dsimp only; obtain ⟨e, he, hk, hv⟩ := getV_some hg; subst hk; rw [setV_map he h.keys]; refine ⟨fun y hy => ?_, by simpa using h.len, ?_⟩
      · obtain ⟨z, hz, rfl⟩ := List.mem_map.1 hy; split
        · exact ⟨hn.1, (by decide : (0 : Int) ≤ 0), (by decide : (0 : Int) ≤ 1073741824)⟩
        · exact h.val z hz
      · rw [List.map_map]; have : es.map ((fun x => x.key) ∘ fun y => if y.key = e.key then (⟨y.key, ((nearOf es e.key).1, 0), y.born⟩ : Ent Int (Int × Int)) else y) = es.map (·.key) := List.map_congr_left fun y _ => by simp only [Function.comp_apply]; split <;> rfl
        rw [this]; exact h.keys
    | none =>
      dsimp only; refine ⟨fun y hy => ?_, ?_, ?_⟩
      · rcases List.mem_append.1 hy with hy | hy
        · exact h.val y hy
        · rw [List.mem_singleton] at hy; subst hy; exact ⟨hn.1, (by decide : (0 : Int) ≤ 0), (by decide : (0 : Int) ≤ 1073741824)⟩
      · have hl := h.len
        have : ¬ es.length = 16 := fun e => by
          unfold hearErr at h0; split at h0
          · cases h0
          · rw [if_pos ⟨hg, e⟩] at h0; cases h0
        simp only [List.length_append, List.length_cons, List.length_nil]; omega
      · rw [List.map_append, List.nodup_append]; refine ⟨h.keys, by simp, fun a ha b hb => ?_⟩; obtain ⟨y, hy, rfl⟩ := List.mem_map.1 ha; simp only [List.map_cons, List.map_nil, List.mem_singleton] at hb; subst hb; exact getV_none hg y hy
  · exact h
theorem NearFit.known {k : KS} (h : NearFit k.es) (me : Int) (l : List Hd) : NearFit (knownF me k l).es := by
  unfold knownF
  induction l generalizing k with
  | nil => exact h
  | cons x l ih =>
    refine ih (k := knStep me k x) ?_; simp only [knStep, knE]; split
    · exact h
    · exact h.hear _ _
theorem NearFit.tick {es : NT} (h : NearFit es) (pat : Int) : NearFit (tickT pat es) := by
  unfold tickT; have hs := List.filter_sublist (l := es) (p := fun e => decide ¬ goneN pat e); refine ⟨fun y hy => ?_, by rw [List.length_map]; exact Nat.le_trans hs.length_le h.len, ?_⟩
  · obtain ⟨z, hz, rfl⟩ := List.mem_map.1 hy; have hv := h.val z (hs.mem hz); simp only [tickN]; refine ⟨?_, by omega, by omega⟩; split
    · exact hv.1
    · split <;> omega
  · rw [List.map_map]; exact (hs.map _).nodup h.keys
end Go.Proofs.YtaanjifekgfemaaGreat.Cl
end
section
namespace Go.Proofs.YtaanjifekgfemaaGreat.Cl
open Tryz
open Go.RowKit Go.Proofs.YtaanjifekgfemaaGreat.K Go.Proofs.YtaanjifekgfemaaGreat.W
attribute [local irreducible] bound clip adds sub neg mag mulp mul maxs
theorem fa158_1 : FA 158 1 23 := fun _ _ => by simp [Instr.fieldAt, Instr.sureAddr, go_sem]
theorem fa158_2 : FA 158 2 24 := fun _ _ => by simp [Instr.fieldAt, Instr.sureAddr, go_sem]
theorem cf181 : CF 181 := fun _ _ => by simp [go_sem]
theorem cf182 : CF 182 := fun _ _ => by simp [go_sem]
theorem cf180 : CF 180 := fun _ _ => by simp [go_sem]
theorem known1_any (x : Hd) (y : M) (B : Option Addr) (cb : Nat) (b : Nat) (w0 w : World) (F0 : List Nat) (L G : List Res) (hst : St w0 F0 w L G) (j : Nat) (hj : L[j]? = some (cellsR b (msgC y B cb) 103)) :
    Calls Tryz.prog 180 #[.agg (hdC x).toArray, .pointer (some ⟨b, 0, none⟩)] w fun e w' => e = .returned (.bool (decide (x.m.from_ = y.from_))) ∧ St w0 F0 w' L G := by
  refine W.func func180 rfl ntmps180 rfl<|W.sr rfl<|Ops.ww rfl (X.boxA hst rfl fun p2 w2 hst => hst.y rfl (Y.assignB rfl)<|Ops.ds rfl rfl<|hst.y rfl (Y.fieldAddr fa138_0 rfl)<|hst.y rfl (Y.fieldAddr fa103_1 rfl)<|hst.y rfl (Y.load 0 isAgg3 rfl rfl rfl)<|?_)
  first
  | refine hst.y rfl (Y.fieldAddr fa103_1 rfl) ?_
  | refine hst.y rfl (Y.fieldAddrP fa103_1 rfl) ?_
  refine hst.y rfl (Y.load (j + 1) isAgg3 rfl (by simpa using hj) rfl) ?_; refine hst.yb rfl (Y.eql rfl rfl) (fun b9 hb9 => hst.y rfl (Y.assignB rfl)<|Ops.done rfl<|W.ret rfl<|⟨_, Rslt.one results180 rfl, ?_⟩); exact ⟨congrArg (fun b => Ending.returned (.bool b)) hb9, (hst.dr 1)⟩
set_option maxHeartbeats 2000000 in
theorem known_any (b : Nat) (T : TypeId) (p : Par) (s : Stt) (A : Option Addr) (cap : Nat) (me : Int) (tb mb : Nat) (es : NT) (clock : Nat) (l : List Hd) (hl : l.length ≤ 1000000) (B : Option Addr) (cb : Nat) (w0 w : World) (F0 : List Nat) (L G : List Res) (hst : St w0 F0 w (frR b T p s A cap [.int .i64 me, .pointer (some ⟨tb, 0, none⟩)] :: cellsR tb [.map (some mb)] 204 :: mapR ikE nrV mb (es) (clock) :: L) G) (hr : Rds [] G (.slice B l.length cb) l.length (flat hdC l)) :
    Calls Tryz.prog 174 #[.pointer (some ⟨b, 0, none⟩), .slice B l.length cb] w fun e w' => ∃ A' c', e = .returned (.slice A' (knownF me ⟨es, clock, []⟩ l).out.length c') ∧ St w0 F0 w' (rowR (.slice A' ((knownF me ⟨es, clock, []⟩ l).out).length c') 138 15 ((knownF me ⟨es, clock, []⟩ l).out).length (flat hdC ((knownF me ⟨es, clock, []⟩ l).out)) :: frR b T p s A cap [.int .i64 me, .pointer (some ⟨tb, 0, none⟩)] :: cellsR tb [.map (some mb)] 204 :: mapR ikE nrV mb ((knownF me ⟨es, clock, []⟩ l).es) ((knownF me ⟨es, clock, []⟩ l).clock) :: L) G := by
  refine W.func func174 rfl ntmps174 rfl<|W.sr rfl<|hst.y rfl (Y.assignS rfl)<|Ops.ds rfl rfl<|hst.y rfl (Y.assignS rfl)<|Ops.done rfl<|W.seq rfl<|W.sr rfl<|?_; replace hst := hst.nilRow 138 15; refine hst.y rfl (Y.moveS rfl)<|hst.y rfl (Y.lenS underlying97 rfl)<|hst.y rfl (Y.moveI rfl)<|Ops.done rfl<|W.block rfl<|?_; refine W.loop (γ := Nat × (Option Addr × Nat)) [(0, .pointer _), (12, .slice _ _ _), (13, .int _ _)] (fun x => [(5, .slice x.2.1 (knownF me ⟨es, clock, []⟩ (l.take x.1)).out.length x.2.2), (14, .int .i64 (x.1 : Int))]) (fun x w => x.1 ≤ l.length ∧ St w0 F0 w (rowR (.slice x.2.1 ((knownF me ⟨es, clock, []⟩ (l.take x.1)).out).length x.2.2) 138 15 ((knownF me ⟨es, clock, []⟩ (l.take x.1)).out).length (flat hdC ((knownF me ⟨es, clock, []⟩ (l.take x.1)).out)) :: frR b T p s A cap [.int .i64 me, .pointer (some ⟨tb, 0, none⟩)] :: cellsR tb [.map (some mb)] 204 :: mapR ikE nrV mb ((knownF me ⟨es, clock, []⟩ (l.take x.1)).es) ((knownF me ⟨es, clock, []⟩ (l.take x.1)).clock) :: L) G) (fun x => l.length - x.1) ((0, (none, 0))) rfl ⟨rfl, rfl, rfl, trivial⟩ ?_ ?_ ?_
  · exact ⟨rfl, rfl, trivial⟩
  · exact ⟨by omega, hst⟩
  · clear hst; rintro ⟨k, ⟨A5, c5⟩⟩ j w5 ⟨hk, hst⟩; refine W.sr rfl<|hst.yb rfl (Y.lss rfl rfl) (fun b15 hb15 => Ops.done rfl<|W.seq rfl<|?_); cases b15
    · replace hb15 := dF hb15; refine W.condF rfl rfl<|W.exit rfl<|W.seq rfl<|?_; obtain rfl : k = l.length := by omega
      have e1 : l.take l.length = l := List.take_length; refine W.region rfl<|hst.y rfl (Y.moveS rfl)<|hst.y rfl (Y.assignS rfl)<|Ops.done rfl<|W.ret rfl<|⟨_, Rslt.one results174 rfl, ?_⟩; have hst2 := hst; dsimp only at hst2; rw [e1] at hst2; exact ⟨A5, c5, congrArg (fun q => Ending.returned (.slice A5 (knownF me ⟨es, clock, []⟩ q).out.length c5)) e1, hst2⟩
    · replace hb15 := dT hb15; refine W.condT rfl rfl<|W.skip rfl<|W.seq rfl<|W.block rfl<|W.seq rfl<|?_; have hk1 : k < l.length := by omega
      have htl : (knownF me ⟨es, clock, []⟩ (l.take k)).out.length ≤ 1000000 := by have := (knownF_sublist me ⟨es, clock, []⟩ (l.take k) rfl).length_le; rw [List.length_take] at this; omega
      refine W.region rfl<|hst.y rfl (Y.indexAddr underlying97 sizeOf138 rfl rfl ((hr.hd.sl hst).ne (flat_pos hdC_len (by decide) (by omega))) (by omega))<|?_; refine hst.y rfl (Y.loadSlA isAgg138 sizeOf138 rfl hr.hd (flat_atI hdC_len l k hk1) (hdC_len _))<|Ops.ww rfl (X.allocA hst zeroValue138 fun p7 w7 hst => Ops.ww rfl (X.storeS hst 0 sizeOf138 rfl rfl rfl rfl rfl (lZ rfl) rfl rfl fun w4_3 hst => Ops.ds rfl rfl<|hst.y rfl (Y.fieldAddr fa138_0 rfl)<|hst.y rfl (Y.loadA 0 isAgg103 sizeOf103 rfl rfl rfl rfl)<|Ops.ww rfl (X.allocA hst zeroValue103 fun p8 w8 hst => Ops.ww rfl (X.storeS hst 0 sizeOf103 rfl rfl rfl rfl rfl (lZ rfl) rfl rfl fun w5_3 hst => Ops.ds rfl rfl<|hst.y rfl (Y.moveS rfl)<|hst.y rfl (Y.makeFunc rfl rfl)<|Ops.ww rfl (X.retB cf125 (containsFunc_Heard hdC hdC_len (fun x : Hd => decide (x.m.from_ = l[k].m.from_)) (knownF me ⟨es, clock, []⟩ (l.take k)).out (by omega) A5 c5 180 [] [.pointer (some ⟨p8, 0, none⟩)] cf180 _ _ _ _ _ hst (Rds.rowL 2 rfl) (fun x hx w hst => known1_any x l[k].m _ _ _ _ _ _ _ _ hst 0 rfl)) rfl fun b22 w22 hb22 hst => hst.y rfl (Y.assignB rfl)<|Ops.done rfl<|W.seq rfl<|W.drawn rfl (by kernel_rfl) (Ctx _ _ (_) (_)) [] (.op 0 0 (.op 1 0 (.op 2 0 (.op 3 0 (.op 4 0 (.op 5 0 (.op 6 1 (.op 7 0 (.op 8 0 (.op 9 0 (.op 10 0 (.op 11 0 .nil)))))))))))) rfl (by kernel_rfl) hst.drew.ctx<|?_))))); replace hst := hst.drew; generalize World.drew _ = wd at hst ⊢; refine hst.z rfl (Y.moveP rfl)<|hst.z rfl (Y.nilCheck rfl)<|hst.z rfl (Y.fieldAddr fa158_2 rfl)<|hst.z rfl (Y.load 3 isAgg156 rfl rfl rfl)<|hst.z rfl (Y.fieldAddr fa103_1 rfl)<|hst.z rfl (Y.load 0 isAgg3 rfl rfl rfl)<|Drw.ww rfl (X.call cf181 rfl<|?_); refine use_call (age_any tb mb (knownF me ⟨es, clock, []⟩ (l.take k)).es (knownF me ⟨es, clock, []⟩ (l.take k)).clock l[k].m.from_ _ _ _ _ _ (hst.up_5).up_5) rfl ?_; clear hst; rintro e w30 ⟨b30, rfl, hst⟩; replace hst := (hst.dn5).dn5; refine ⟨_, rfl, ⟨hst.ctx, ?_⟩⟩; refine hst.z rfl (Y.moveU rfl)<|hst.z rfl (Y.extract rfl rfl)<|hst.z rfl (Y.extract rfl rfl)<|hst.z rfl (Y.assignI rfl)<|hst.z rfl (Y.assignB rfl)<|Drw.done<|W.seq rfl<|W.seq rfl<|?_; refine W.cut [(0, .pointer _), (5, .slice _ _ _), (7, .pointer _), (8, .pointer _), (10, .int _ _), (12, .slice _ _ _), (13, .int _ _), (14, .int _ _)] (fun x : Bool => [(52, .bool x)]) (fun x w => x = decide (¬ knGo me (knownF me ⟨es, clock, []⟩ (l.take k)) l[k]) ∧ St w0 F0 w (cellsR p8 (msgC l[k].m l[k].A l[k].cap) 103 :: cellsR p7 (hdC l[k]) 138 :: rowR (.slice A5 ((knownF me ⟨es, clock, []⟩ (l.take k)).out).length c5) 138 15 ((knownF me ⟨es, clock, []⟩ (l.take k)).out).length (flat hdC ((knownF me ⟨es, clock, []⟩ (l.take k)).out)) :: frR b T p s A cap [.int .i64 me, .pointer (some ⟨tb, 0, none⟩)] :: cellsR tb [.map (some mb)] 204 :: mapR ikE nrV mb (knE me (knownF me ⟨es, clock, []⟩ (l.take k)) l[k]) (knC me (knownF me ⟨es, clock, []⟩ (l.take k)) l[k]) :: L) G) ⟨rfl, rfl, rfl, rfl, rfl, rfl, rfl, rfl, trivial⟩ ?_ ?_
      rotate_left
      · clear hst; rintro b52 j w8 ⟨hb52, hst⟩; cases b52
        · replace hb52 := dF hb52; refine W.condF rfl rfl<|W.skip rfl<|W.seq rfl<|?_; refine W.cut [(0, .pointer _), (5, .slice _ _ _), (7, .pointer _), (12, .slice _ _ _), (13, .int _ _), (14, .int _ _)] (fun x : Bool => [(74, .bool x)]) (fun x w => x = decide (knTake (nearOf (knownF me ⟨es, clock, []⟩ (l.take k)).es l[k].m.from_).1 l[k]) ∧ St w0 F0 w (cellsR p8 (msgC l[k].m l[k].A l[k].cap) 103 :: cellsR p7 (hdC l[k]) 138 :: rowR (.slice A5 ((knownF me ⟨es, clock, []⟩ (l.take k)).out).length c5) 138 15 ((knownF me ⟨es, clock, []⟩ (l.take k)).out).length (flat hdC ((knownF me ⟨es, clock, []⟩ (l.take k)).out)) :: frR b T p s A cap [.int .i64 me, .pointer (some ⟨tb, 0, none⟩)] :: cellsR tb [.map (some mb)] 204 :: mapR ikE nrV mb (knE me (knownF me ⟨es, clock, []⟩ (l.take k)) l[k]) (knC me (knownF me ⟨es, clock, []⟩ (l.take k)) l[k]) :: L) G) ⟨rfl, rfl, rfl, rfl, rfl, rfl, trivial⟩ ?_ ?_
          rotate_left
          · clear hst; rintro b74 j w9 ⟨hb74, hst⟩; have hgo := Decidable.not_not.1 hb52; cases b74
            · replace hb74 := dF hb74; refine W.condF rfl rfl<|W.skip rfl<|W.region rfl<|hst.y rfl (Y.addI rfl rfl (by omega))<|hst.y rfl (Y.moveI rfl)<|Ops.done rfl<|?_; have e2 : (knownF me ⟨es, clock, []⟩ (l.take (k + 1))).out = (knownF me ⟨es, clock, []⟩ (l.take k)).out := by rw [knownF_snoc me _ l k hk1]; exact if_neg (fun h => hb74 h.2)
              have e3 : (knownF me ⟨es, clock, []⟩ (l.take (k + 1))).es = knE me (knownF me ⟨es, clock, []⟩ (l.take k)) l[k] := by rw [knownF_snoc me _ l k hk1]; rfl
              have e4 : (knownF me ⟨es, clock, []⟩ (l.take (k + 1))).clock = knC me (knownF me ⟨es, clock, []⟩ (l.take k)) l[k] := by rw [knownF_snoc me _ l k hk1]; rfl
              refine ⟨(k + 1, (A5, c5)), ⟨?_, rfl, trivial⟩, ⟨rfl, rfl, rfl, trivial⟩, ⟨by omega, by rw [e2, e3, e4]; exact (hst.dr 2)⟩, by dsimp only at *; omega⟩; rw [e2]; rfl
            · replace hb74 := dT hb74; refine W.condT rfl rfl<|W.region rfl<|hst.y rfl (Y.moveS rfl)<|hst.y rfl (Y.loadA 1 isAgg138 sizeOf138 rfl rfl rfl rfl)<|Ops.ww rfl (X.lit1 hst underlying97 sizeOf138 zeroValue138 rfl rfl rfl fun p77 w77 hst => Ops.ww rfl (X.app hst 3 0 underlying97 info138 rfl rfl rfl rfl rfl rfl rfl rfl (by unfold maxLen; omega) (by omega) fun A78 c78 w78 hst => ?_)); refine hst.y rfl (Y.assignS rfl)<|Ops.done rfl<|W.region rfl<|hst.y rfl (Y.addI rfl rfl (by omega))<|hst.y rfl (Y.moveI rfl)<|Ops.done rfl<|?_; have e2 : (knownF me ⟨es, clock, []⟩ (l.take (k + 1))).out = (knownF me ⟨es, clock, []⟩ (l.take k)).out ++ [l[k]] := by rw [knownF_snoc me _ l k hk1]; exact if_pos ⟨hgo, hb74⟩
              have e3 : (knownF me ⟨es, clock, []⟩ (l.take (k + 1))).es = knE me (knownF me ⟨es, clock, []⟩ (l.take k)) l[k] := by rw [knownF_snoc me _ l k hk1]; rfl
              have e4 : (knownF me ⟨es, clock, []⟩ (l.take (k + 1))).clock = knC me (knownF me ⟨es, clock, []⟩ (l.take k)) l[k] := by rw [knownF_snoc me _ l k hk1]; rfl
              have e5 : ((knownF me ⟨es, clock, []⟩ (l.take k)).out ++ [l[k]]).length = (knownF me ⟨es, clock, []⟩ (l.take k)).out.length + 1 := by simp
              have e6 : flat hdC ((knownF me ⟨es, clock, []⟩ (l.take k)).out ++ [l[k]]) = flat hdC (knownF me ⟨es, clock, []⟩ (l.take k)).out ++ hdC l[k] := by rw [flat_append]; simp [flat]
              refine ⟨(k + 1, (A78, c78)), ⟨?_, rfl, trivial⟩, ⟨rfl, rfl, rfl, trivial⟩, ⟨by omega, by rw [e2, e3, e4, e5, e6]; exact (hst.dr 3)⟩, by dsimp only at *; omega⟩; rw [e2, e5]; rfl
          refine W.region rfl<|hst.y rfl (Y.fieldAddr fa103_0 rfl)<|hst.y rfl (Y.load 0 isAgg3 rfl rfl rfl)<|hst.yb rfl (Y.eql rfl rfl) (fun b55 hb55 => hst.y rfl (Y.moveB rfl)<|?_); cases b55
          · replace hb55 := dF hb55; refine Ops.nn rfl<|Ops.nn rfl<|Ops.nn rfl<|hst.y rfl (Y.pB rfl rfl)<|hst.y rfl (Y.moveB rfl)<|hst.y rfl (Y.fieldAddr fa103_0 rfl)<|hst.y rfl (Y.load 0 isAgg3 rfl rfl rfl)<|hst.yb rfl (Y.eql rfl rfl) (fun b64 hb64 => hst.y rfl (Y.moveB rfl)<|?_); cases b64
            · replace hb64 := dF hb64; refine Ops.nn rfl<|Ops.nn rfl<|Ops.nn rfl<|hst.y rfl (Y.pB rfl rfl)<|hst.y rfl (Y.moveB rfl)<|Ops.nn rfl<|Ops.nn rfl<|hst.y rfl (Y.pB rfl rfl)<|hst.y rfl (Y.pB rfl rfl)<|Ops.done rfl<|?_; exact ⟨_, ⟨rfl, trivial⟩, ⟨rfl, rfl, rfl, rfl, rfl, rfl, trivial⟩, (decide_eq_false (by unfold knTake; omega)).symm, hst⟩
            · replace hb64 := dT hb64; refine hst.y rfl (Y.fieldAddr fa103_1 rfl)<|hst.y rfl (Y.load 0 isAgg3 rfl rfl rfl)<|hst.yb rfl (Y.geq rfl rfl) (fun b68 hb68 => hst.y rfl (Y.pB rfl rfl)<|hst.y rfl (Y.moveB rfl)<|?_); cases b68
              · replace hb68 := dF hb68; refine Ops.nn rfl<|Ops.nn rfl<|hst.y rfl (Y.pB rfl rfl)<|hst.y rfl (Y.pB rfl rfl)<|Ops.done rfl<|?_; exact ⟨_, ⟨rfl, trivial⟩, ⟨rfl, rfl, rfl, rfl, rfl, rfl, trivial⟩, (decide_eq_false (by unfold knTake; omega)).symm, hst⟩
              · replace hb68 := dT hb68; refine hst.y rfl (Y.moveI rfl)<|hst.yb rfl (Y.gtr rfl rfl) (fun b72 hb72 => hst.y rfl (Y.pB rfl rfl)<|hst.y rfl (Y.pB rfl rfl)<|Ops.done rfl<|?_); exact ⟨_, ⟨rfl, trivial⟩, ⟨rfl, rfl, rfl, rfl, rfl, rfl, trivial⟩, hb72.trans (decide_eq_decide.2 (by unfold knTake; omega)), hst⟩
          · replace hb55 := dT hb55; refine hst.y rfl (Y.fieldAddr fa103_1 rfl)<|hst.y rfl (Y.load 0 isAgg3 rfl rfl rfl)<|hst.yb rfl (Y.lss rfl rfl) (fun b59 hb59 => hst.y rfl (Y.pB rfl rfl)<|hst.y rfl (Y.moveB rfl)<|?_); cases b59
            · replace hb59 := dF hb59; refine hst.y rfl (Y.fieldAddr fa103_0 rfl)<|hst.y rfl (Y.load 0 isAgg3 rfl rfl rfl)<|hst.yb rfl (Y.eql rfl rfl) (fun b64 hb64 => hst.y rfl (Y.moveB rfl)<|?_); cases b64
              · replace hb64 := dF hb64; refine Ops.nn rfl<|Ops.nn rfl<|Ops.nn rfl<|hst.y rfl (Y.pB rfl rfl)<|hst.y rfl (Y.moveB rfl)<|Ops.nn rfl<|Ops.nn rfl<|hst.y rfl (Y.pB rfl rfl)<|hst.y rfl (Y.pB rfl rfl)<|Ops.done rfl<|?_; exact ⟨_, ⟨rfl, trivial⟩, ⟨rfl, rfl, rfl, rfl, rfl, rfl, trivial⟩, (decide_eq_false (by unfold knTake; omega)).symm, hst⟩
              · replace hb64 := dT hb64; refine hst.y rfl (Y.fieldAddr fa103_1 rfl)<|hst.y rfl (Y.load 0 isAgg3 rfl rfl rfl)<|hst.yb rfl (Y.geq rfl rfl) (fun b68 hb68 => hst.y rfl (Y.pB rfl rfl)<|hst.y rfl (Y.moveB rfl)<|?_); cases b68
                · replace hb68 := dF hb68; refine Ops.nn rfl<|Ops.nn rfl<|hst.y rfl (Y.pB rfl rfl)<|hst.y rfl (Y.pB rfl rfl)<|Ops.done rfl<|?_; exact ⟨_, ⟨rfl, trivial⟩, ⟨rfl, rfl, rfl, rfl, rfl, rfl, trivial⟩, (decide_eq_false (by unfold knTake; omega)).symm, hst⟩
                · replace hb68 := dT hb68; refine hst.y rfl (Y.moveI rfl)<|hst.yb rfl (Y.gtr rfl rfl) (fun b72 hb72 => hst.y rfl (Y.pB rfl rfl)<|hst.y rfl (Y.pB rfl rfl)<|Ops.done rfl<|?_); exact ⟨_, ⟨rfl, trivial⟩, ⟨rfl, rfl, rfl, rfl, rfl, rfl, trivial⟩, hb72.trans (decide_eq_decide.2 (by unfold knTake; omega)), hst⟩
            · replace hb59 := dT hb59; refine Ops.nn rfl<|Ops.nn rfl<|Ops.nn rfl<|Ops.nn rfl<|Ops.nn rfl<|Ops.nn rfl<|Ops.nn rfl<|Ops.nn rfl<|Ops.nn rfl<|Ops.nn rfl<|Ops.nn rfl<|Ops.nn rfl<|hst.y rfl (Y.pB rfl rfl)<|Ops.done rfl<|?_; exact ⟨_, ⟨rfl, trivial⟩, ⟨rfl, rfl, rfl, rfl, rfl, rfl, trivial⟩, (decide_eq_true (by unfold knTake; omega)).symm, hst⟩
        · replace hb52 := dT hb52; refine W.condT rfl rfl<|W.exit rfl<|W.region rfl<|hst.y rfl (Y.addI rfl rfl (by omega))<|hst.y rfl (Y.moveI rfl)<|Ops.done rfl<|?_; have e2 : (knownF me ⟨es, clock, []⟩ (l.take (k + 1))).out = (knownF me ⟨es, clock, []⟩ (l.take k)).out := by rw [knownF_snoc me _ l k hk1]; exact if_neg (fun h => hb52 h.1)
          have e3 : (knownF me ⟨es, clock, []⟩ (l.take (k + 1))).es = knE me (knownF me ⟨es, clock, []⟩ (l.take k)) l[k] := by rw [knownF_snoc me _ l k hk1]; rfl
          have e4 : (knownF me ⟨es, clock, []⟩ (l.take (k + 1))).clock = knC me (knownF me ⟨es, clock, []⟩ (l.take k)) l[k] := by rw [knownF_snoc me _ l k hk1]; rfl
          refine ⟨(k + 1, (A5, c5)), ⟨?_, rfl, trivial⟩, ⟨rfl, rfl, rfl, trivial⟩, ⟨by omega, by rw [e2, e3, e4]; exact (hst.dr 2)⟩, by dsimp only at *; omega⟩; rw [e2]; rfl
      refine hst.dv [17,18,19] (T0 [0,1,2,3,4,5,6,7,8,9,10,11,12,13,14,15,16] (T1 [17,18,19] .nil)) rfl (by kernel_rfl) rfl (by kernel_rfl) fun wd hst => ?_; refine hst.z rfl (Y.moveB rfl)<|hst.z rfl (Y.moveB rfl)<|?_; cases b22
      · replace hb22 := dF hb22; refine hst.z rfl (Y.fieldAddr fa103_1 rfl)<|hst.z rfl (Y.load 0 isAgg3 rfl rfl rfl)<|hst.z rfl (Y.moveP rfl)<|hst.z rfl (Y.nilCheck rfl)<|hst.z rfl (Y.fieldAddr fa158_1 rfl)<|hst.z rfl (Y.load 3 isAgg3 rfl rfl rfl)<|Drw.yb rfl rfl rfl hst.ctx (Y.eql rfl rfl) (fun b41 hb41 => hst.z rfl (Y.pB rfl rfl)<|hst.z rfl (Y.moveB rfl)<|?_); cases b41
        · replace hb41 := dF hb41; refine hst.z rfl (Y.moveP rfl)<|hst.z rfl (Y.nilCheck rfl)<|hst.z rfl (Y.fieldAddr fa158_2 rfl)<|hst.z rfl (Y.load 3 isAgg156 rfl rfl rfl)<|hst.z rfl (Y.fieldAddr fa103_1 rfl)<|hst.z rfl (Y.load 0 isAgg3 rfl rfl rfl)<|Drw.z rfl rfl rfl rfl (X.call cf182 rfl<|?_); refine use_call (hear_any2 tb mb (knownF me ⟨es, clock, []⟩ (l.take k)).es (knownF me ⟨es, clock, []⟩ (l.take k)).clock l[k].m.from_ _ _ _ _ _ (hst.up_5).up_5) rfl ?_; clear hst; rintro e w50 ⟨rfl, hst⟩; replace hst := (hst.dn5).dn5; refine ⟨_, rfl, ?_⟩; refine Drw.zyb rfl rfl rfl rfl hst.ctx (Y.neq rfl rfl) (fun b51 hb51 => Drw.zy rfl rfl rfl rfl hst.ctx (Y.pB rfl rfl)<|Drw.done<|?_); have hsk : ¬ knSkip me (knownF me ⟨es, clock, []⟩ (l.take k)) l[k] := fun h => h.elim hb22 hb41; have e1 : knE me (knownF me ⟨es, clock, []⟩ (l.take k)) l[k] = hearT (knownF me ⟨es, clock, []⟩ (l.take k)).es l[k].m.from_ (knownF me ⟨es, clock, []⟩ (l.take k)).clock := if_neg hsk; have e2 : knC me (knownF me ⟨es, clock, []⟩ (l.take k)) l[k] = hearC (knownF me ⟨es, clock, []⟩ (l.take k)).es l[k].m.from_ (knownF me ⟨es, clock, []⟩ (l.take k)).clock := if_neg hsk; exact ⟨_, ⟨rfl, trivial⟩, ⟨rfl, rfl, rfl, rfl, rfl, rfl, rfl, rfl, trivial⟩, hb51.trans (decide_eq_decide.2 ⟨fun h h2 => h h2.2, fun h h2 => h ⟨hsk, h2⟩⟩), by rw [e1, e2]; exact hst⟩
        · replace hb41 := dT hb41; refine Drw.no rfl rfl rfl hst.ctx<|Drw.no rfl rfl rfl hst.ctx<|Drw.no rfl rfl rfl hst.ctx<|Drw.no rfl rfl rfl hst.ctx<|Drw.no rfl rfl rfl hst.ctx<|Drw.no rfl rfl rfl hst.ctx<|Drw.noX rfl rfl rfl hst.ctx<|Drw.noX rfl rfl rfl hst.ctx<|Drw.zy rfl rfl rfl rfl hst.ctx (Y.pB rfl rfl)<|Drw.done<|?_; have hsk : knSkip me (knownF me ⟨es, clock, []⟩ (l.take k)) l[k] := Or.inr hb41; have e1 : knE me (knownF me ⟨es, clock, []⟩ (l.take k)) l[k] = (knownF me ⟨es, clock, []⟩ (l.take k)).es := if_pos hsk; have e2 : knC me (knownF me ⟨es, clock, []⟩ (l.take k)) l[k] = (knownF me ⟨es, clock, []⟩ (l.take k)).clock := if_pos hsk
          have hx : true = decide (¬ knGo me (knownF me ⟨es, clock, []⟩ (l.take k)) l[k]) := by
            have hng : ¬ knGo me (knownF me ⟨es, clock, []⟩ (l.take k)) l[k] := fun h => h.1 hsk; exact (decide_eq_true hng).symm
          exact ⟨true, ⟨rfl, trivial⟩, ⟨rfl, rfl, rfl, rfl, rfl, rfl, rfl, rfl, trivial⟩, hx, by rw [e1, e2]; exact hst⟩
      · replace hb22 := dT hb22; refine Drw.no rfl rfl rfl hst.ctx<|Drw.no rfl rfl rfl hst.ctx<|Drw.no rfl rfl rfl hst.ctx<|Drw.no rfl rfl rfl hst.ctx<|Drw.no rfl rfl rfl hst.ctx<|Drw.no rfl rfl rfl hst.ctx<|Drw.no rfl rfl rfl hst.ctx<|hst.z rfl (Y.pB rfl rfl)<|hst.z rfl (Y.moveB rfl)<|Drw.no rfl rfl rfl hst.ctx<|Drw.no rfl rfl rfl hst.ctx<|Drw.no rfl rfl rfl hst.ctx<|Drw.no rfl rfl rfl hst.ctx<|Drw.no rfl rfl rfl hst.ctx<|Drw.no rfl rfl rfl hst.ctx<|Drw.noX rfl rfl rfl hst.ctx<|Drw.noX rfl rfl rfl hst.ctx<|Drw.zy rfl rfl rfl rfl hst.ctx (Y.pB rfl rfl)<|Drw.done<|?_; have hsk : knSkip me (knownF me ⟨es, clock, []⟩ (l.take k)) l[k] := Or.inl hb22; have e1 : knE me (knownF me ⟨es, clock, []⟩ (l.take k)) l[k] = (knownF me ⟨es, clock, []⟩ (l.take k)).es := if_pos hsk; have e2 : knC me (knownF me ⟨es, clock, []⟩ (l.take k)) l[k] = (knownF me ⟨es, clock, []⟩ (l.take k)).clock := if_pos hsk
        have hx : true = decide (¬ knGo me (knownF me ⟨es, clock, []⟩ (l.take k)) l[k]) := by
          have hng : ¬ knGo me (knownF me ⟨es, clock, []⟩ (l.take k)) l[k] := fun h => h.1 hsk; exact (decide_eq_true hng).symm
        exact ⟨true, ⟨rfl, trivial⟩, ⟨rfl, rfl, rfl, rfl, rfl, rfl, rfl, rfl, trivial⟩, hx, by rw [e1, e2]; exact hst⟩
theorem bd158_0_1_2 {S ρ ty} {parts : Array (Nat × Operand)} {x0_0_0 : Int} {x0_0_1 : Int} {x0_0_2 : Int} {x0_0_3 : Int} {x0_0_4 : Int} {x0_0_5 : Int} {x0_0_6 : Int} {x0_0_7 : Int} {x0_0_8 : Int} {x0_0_9 : Int} {x0_0_10 : Int} {x0_0_11 : Int} {x0_1_0_0 : Int} {x0_1_0_1 : Int} {x0_1_1 : Int} {x0_1_2 : Bool} {x0_1_3 : Int} {x0_1_4 : Int} {x0_1_5 : Bool} {x0_1_6a : Option Addr} {x0_1_6l x0_1_6c : Nat} {x0_1_7_0 : Int} {x0_1_7_1 : Int} {x0_1_8 : Int} {x1 : Int} {x2 : Option Addr} (hp : (parts.toList.map fun x => (x.1, ev ρ x.2)) = [(0, .agg #[Value.int .i64 x0_0_0, Value.int .i64 x0_0_1, Value.int .i64 x0_0_2, Value.int .i64 x0_0_3, Value.int .i64 x0_0_4, Value.int .i64 x0_0_5, Value.int .i64 x0_0_6, Value.int .i64 x0_0_7, Value.int .i64 x0_0_8, Value.int .i64 x0_0_9, Value.int .i64 x0_0_10, Value.int .i64 x0_0_11, Value.int .i64 x0_1_0_0, Value.int .i64 x0_1_0_1, Value.int .i64 x0_1_1, Value.bool x0_1_2, Value.int .i64 x0_1_3, Value.int .i64 x0_1_4, Value.bool x0_1_5, Value.slice x0_1_6a x0_1_6l x0_1_6c, Value.int .i64 x0_1_7_0, Value.int .i64 x0_1_7_1, Value.int .i64 x0_1_8]), (1, Value.int .i64 x1), (2, Value.pointer x2)]) : Y Tryz.prog S ρ (.build 158 parts) ty (.agg #[Value.int .i64 x0_0_0, Value.int .i64 x0_0_1, Value.int .i64 x0_0_2, Value.int .i64 x0_0_3, Value.int .i64 x0_0_4, Value.int .i64 x0_0_5, Value.int .i64 x0_0_6, Value.int .i64 x0_0_7, Value.int .i64 x0_0_8, Value.int .i64 x0_0_9, Value.int .i64 x0_0_10, Value.int .i64 x0_0_11, Value.int .i64 x0_1_0_0, Value.int .i64 x0_1_0_1, Value.int .i64 x0_1_1, Value.bool x0_1_2, Value.int .i64 x0_1_3, Value.int .i64 x0_1_4, Value.bool x0_1_5, Value.slice x0_1_6a x0_1_6l x0_1_6c, Value.int .i64 x0_1_7_0, Value.int .i64 x0_1_7_1, Value.int .i64 x0_1_8, Value.int .i64 x1, Value.pointer x2]) :=
  Y.build hp fun w => by simp [Instr.build, go_sem]
theorem fa103_10 : FA 103 10 13 := fun _ _ => by simp [Instr.fieldAt, Instr.sureAddr, go_sem]
theorem fa158_0 : FA 158 0 0 := fun _ _ => by simp [Instr.fieldAt, Instr.sureAddr, go_sem]
theorem cf90 : CF 90 := fun _ _ => by simp [go_sem]
theorem cf185 : CF 185 := fun _ _ => by simp [go_sem]
theorem info103 : (Tryz.prog.info? 103).map (fun i => (i.zero, i.size, i.bytes)) = some (some (.agg #[Value.int .i64 0, Value.int .i64 0, Value.int .i64 0, Value.int .i64 0, Value.int .i64 0, Value.int .i64 0, Value.bool false, Value.bool false, Value.int .i64 0, Value.int .i64 0, Value.int .i64 0, Value.int .i64 0, Value.int .i64 0, Value.slice none 0 0]), 14, 120) := by kernel_rfl
theorem nnew_any (p : Par) (me : Int) (s : Stt) (A : Option Addr) (cap : Nat) (hT : TabFit s.tab) (w0 w : World) (F0 : List Nat) (L G : List Res) (hst : St w0 F0 w L G) (hr : Rds [] G (.slice A (s.tab).length cap) (s.tab).length (lcs (s.tab))) :
    Calls Tryz.prog 73 #[.agg #[.int .i64 p.N, .int .i64 p.F, .int .i64 p.D, .int .i64 p.Beat, .int .i64 p.Rho, .int .i64 p.Delay, .int .i64 p.Jitter, .int .i64 p.Eps, .int .i64 p.Mu, .int .i64 p.Hold, .int .i64 p.Pulse, .int .i64 p.Second], .int .i64 me, .agg #[.int .i64 s.lo, .int .i64 s.hi, .int .i64 s.time, .bool s.set, .int .i64 s.held, .int .i64 s.hops, .bool s.good, .slice A s.tab.length cap, .int .i64 s.st, .int .i64 s.sn, .int .i64 s.life]] w fun e w' => ∃ b A' c' tb mb, e = .returned (.pointer (some ⟨b, 0, none⟩)) ∧ St w0 F0 w' (frR b 158 p (sane p s) A' c' [.int .i64 me, .pointer (some ⟨tb, 0, none⟩)] :: cellsR tb [.map (some mb)] 204 :: mapR ikE nrV mb ([]) (0) :: L) (rowR (.slice A' ((sane p s).tab).length c') 114 2 ((sane p s).tab).length (lcs ((sane p s).tab)) :: G) := by
  refine W.func func73 rfl ntmps73 rfl<|W.sr rfl<|Ops.ww rfl (X.boxA hst rfl fun p3 w3 hst => Ops.ww rfl (X.boxA hst rfl fun p5 w5 hst => hst.y rfl (Y.assignP rfl)<|Ops.done rfl<|W.seq rfl<|W.drawn rfl (by kernel_rfl) (Ctx _ _ (_) (_)) [] (.op 0 0 (.op 1 0 (.op 2 0 (.op 5 0 (.op 3 1 (.op 4 0 (.op 6 1 (.op 7 0 (.op 8 1 (.op 9 0 .nil)))))))))) rfl (by kernel_rfl) hst.drew.ctx<|?_)); replace hst := hst.drew; generalize World.drew _ = wd at hst ⊢; refine hst.z rfl (Y.loadA 1 isAgg23 sizeOf23 rfl rfl rfl rfl)<|hst.z rfl (Y.loadA 1 isAgg23 sizeOf23 rfl rfl rfl rfl)<|hst.z rfl (Y.loadA 0 isAgg57 sizeOf57 rfl rfl rfl rfl)<|hst.z rfl (Y.moveI rfl)<|Drw.ww rfl (X.call cf12 rfl<|?_); refine use_call (sane_any p s _ _ hT.1 hT.2 _ _ _ _ _ hst hr) rfl ?_; clear hst; rintro e w10 ⟨A10, c10, rfl, hst⟩; refine ⟨_, rfl, ⟨(hst.cxg 0 1), ?_⟩⟩; refine Drw.q rfl (hst.cxg 0 1) (bd60_0_1 rfl)<|Drw.ww rfl (X.call cf90 rfl<|?_); refine use_call (mnew_any _ _ _ _ _ hst) rfl ?_; clear hst; rintro e w13 ⟨tb, mb, rfl, hst⟩; refine ⟨_, rfl, ⟨(hst.cxg 2 1), ?_⟩⟩; refine Drw.q rfl (hst.cxg 2 1) (bd158_0_1_2 rfl)<|Drw.ww rfl (X.boxA hst rfl fun p15 w15 hst => ⟨(hst.cxg 3 1), Drw.q rfl (hst.cxg 3 1) (Y.assignP rfl)<|Drw.done<|W.ret rfl<|⟨_, Rslt.one results73 rfl, ?_⟩⟩); exact ⟨p15, A10, c10, tb, mb, rfl, (hst.sub (.cons_cons _ (.cons_cons _ (.cons_cons _ (.cons _ (.cons _ (.refl _)))))))⟩
end Go.Proofs.YtaanjifekgfemaaGreat.Cl
end
section
namespace Go.Proofs.YtaanjifekgfemaaGreat.Cl
open Tryz
open Go.RowKit Go.Proofs.YtaanjifekgfemaaGreat.K Go.Proofs.YtaanjifekgfemaaGreat.W
def wayM (p : Par) (h : Hd) : Hd := { h with m := { h.m with slo := (way p ⟨h.m.slo, h.m.shi⟩ h.age).lo, shi := (way p ⟨h.m.slo, h.m.shi⟩ h.age).hi } }
def msgStep (p : Par) (acc : List Hd) (h : Hd) : List Hd := if h.m.shi < h.m.slo then acc else acc ++ [wayM p h]
def msgsF (p : Par) (l : List Hd) : List Hd := l.foldl (msgStep p) []
theorem msgsF_snoc (p : Par) (l : List Hd) (k : Nat) (h : k < l.length) : msgsF p (l.take (k + 1)) = msgStep p (msgsF p (l.take k)) l[k] := by
  unfold msgsF; rw [List.take_succ_eq_append_getElem h, List.foldl_append]; rfl
theorem msgsF_length (p : Par) (l : List Hd) : (msgsF p l).length ≤ l.length := by
  have : ∀ (l acc : List Hd), (l.foldl (msgStep p) acc).length ≤ acc.length + l.length := by
    intro l
    induction l with
    | nil => intro acc; simp
    | cons x l ih =>
      intro acc; refine Nat.le_trans (ih _) ?_; unfold msgStep; split
      · simp only [List.length_cons]; omega
      · simp only [List.length_append, List.length_cons, List.length_nil]; omega
  have := this l []; unfold msgsF; simpa using this
theorem msgsF_mem {p : Par} {l : List Hd} {x : Hd} (h : x ∈ msgsF p l) : ∃ y ∈ l, x = wayM p y := by
  have : ∀ (l acc : List Hd), x ∈ l.foldl (msgStep p) acc → x ∈ acc ∨ ∃ y ∈ l, x = wayM p y := by
    intro l
    induction l with
    | nil => intro acc h; exact .inl h
    | cons z l ih =>
      intro acc h; rcases ih _ h with h | ⟨y, hy, e⟩
      · unfold msgStep at h; split at h
        · exact .inl h
        · rcases List.mem_append.1 h with h | h
          · exact .inl h
          · rw [List.mem_singleton] at h; exact .inr ⟨z, List.mem_cons_self, h⟩
      · exact .inr ⟨y, List.mem_cons_of_mem _ hy, e⟩
  rcases this l [] h with h | h
  · cases h
  · exact h
def followH (nx : Stt) (h : Hd) : Stt := { nx with lo := h.m.slo, hi := h.m.shi, hops := h.m.hops + 1, good := true, held := moreHeld h.m.held, tab := if goodTab h.m.tab then h.m.tab else nx.tab }
def followS (p : Par) (l : List Hd) (nx : Stt) : Stt := match choose1 p (msgsF p l) with
  | none => nx
  | some h => followH nx h
def HdFit (G : List Res) (l : List Hd) : Prop := ∀ h ∈ l, TabFit h.m.tab ∧ Rds [] G (.slice h.A h.m.tab.length h.cap) h.m.tab.length (lcs h.m.tab)
end Go.Proofs.YtaanjifekgfemaaGreat.Cl
end
