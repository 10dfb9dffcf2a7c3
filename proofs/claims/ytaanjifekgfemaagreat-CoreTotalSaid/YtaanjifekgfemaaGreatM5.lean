/- What the proof rests on, part 5. -/
import Derived.Test.YtaanjifekgfemaaGreatM4
set_option linter.unusedVariables false
set_option linter.unusedSimpArgs false
set_option linter.unusedSectionVars false
section
namespace Go.Proofs.YtaanjifekgfemaaGreat.Cl
open Tryz
open Go.RowKit Go.Proofs.YtaanjifekgfemaaGreat.K Go.Proofs.YtaanjifekgfemaaGreat.W Go.Proofs.YtaanjifekgfemaaGreat.LN
attribute [local irreducible] bound clip adds sub neg mag mulp mul maxs
theorem bd96_0_3 {S ρ ty} {parts : Array (Nat × Operand)} {x0 : Int} {x3 : Option Addr} (hp : (parts.toList.map fun x => (x.1, ev ρ x.2)) = [(0, Value.int .i64 x0), (3, Value.pointer x3)]) : Y Tryz.prog S ρ (.build 96 parts) ty (.agg #[Value.int .i64 x0, Value.nilIface, Value.pointer none, Value.pointer x3]) :=
  Y.build hp fun w => by simp [Instr.build, go_sem]
theorem fa86_0 : FA 86 0 0 := fun _ _ => by simp [Instr.fieldAt, Instr.sureAddr, go_sem]
theorem fa96_1 : FA 96 1 1 := fun _ _ => by simp [Instr.fieldAt, Instr.sureAddr, go_sem]
theorem fa96_2 : FA 96 2 2 := fun _ _ => by simp [Instr.fieldAt, Instr.sureAddr, go_sem]
theorem cf71 : CF 71 := fun _ _ => by simp [go_sem]
theorem cf72 : CF 72 := fun _ _ => by simp [go_sem]
theorem cf73 : CF 73 := fun _ _ => by simp [go_sem]
theorem St.newQ {w0 w : World} {F0 : List Nat} {L G : List Res} {b : Nat} (h : St w0 F0 w (cellsR b (lcells (List.replicate 48 zr)) 190 :: L) G) : St w0 F0 w (QR b 0 qs0 :: L) G := St.shutQ (rows := List.replicate 48 zr) h new_wf new_items
theorem fresh_gate (wb : Nat) (p : Par) (time : Int) (U V : Value) (hp : p.Ok) (who : Int) (hw : who < 16) (s : Stt) (A : Option Addr) (cap : Nat) (hT : TabFit s.tab) (w0 w : World) (F0 : List Nat) (L G : List Res) (hst : St w0 F0 w (cellsR wb (wC p time U V) 86 :: L) G) (hr : Rds [] G (.slice A (s.tab).length cap) (s.tab).length (lcs (s.tab))) :
    Calls Tryz.prog 49 #[.pointer (some ⟨wb, 0, none⟩), .int .i64 who, .agg #[.int .i64 s.lo, .int .i64 s.hi, .int .i64 s.time, .bool s.set, .int .i64 s.held, .int .i64 s.hops, .bool s.good, .slice A s.tab.length cap, .int .i64 s.st, .int .i64 s.sn, .int .i64 s.life]] w fun e w' => ∃ (m : UM) (G' : List Res), e = .returned (.agg (unC m.un).toArray) ∧ m.u = freshP p who s ∧ (∀ r ∈ G, r ∈ G') ∧ m.Ok p G' ∧ St w0 F0 w' (gateR p m :: m.lres :: cellsR wb (wC p time U V) 86 :: L) G' := by
  refine W.func func49 rfl ntmps49 rfl<|W.sr rfl<|Ops.ww rfl (X.boxA hst rfl fun p5 w5 hst => Ops.ww rfl (X.allocA hst zeroValue96 fun p6 w6 hst => Ops.ds rfl rfl<|hst.y rfl (Y.moveI rfl)<|Ops.ww rfl (X.call cf71 rfl<|?_))); refine use_call (Go.Proofs.YtaanjifekgfemaaGreat.LN.new_any _ _ _ _ _ hst) rfl ?_; clear hst; rintro e w11 ⟨lb, rfl, hst⟩; replace hst := St.newQ hst; refine ⟨_, rfl, ?_⟩; refine hst.y rfl (bd96_0_3 rfl)<|Ops.ww rfl (X.allocA hst zeroValue96 fun p7 w7 hst => Ops.ww rfl (X.storeS hst 0 sizeOf96 rfl rfl rfl rfl rfl (lZ rfl) rfl rfl fun w1_4 hst => Ops.done rfl<|W.seq rfl<|W.sr rfl<|hst.y rfl (Y.moveI rfl)<|hst.yb rfl (Y.lss rfl rfl) (fun b14 hb14 => Ops.done rfl<|?_))); cases b14
  · replace hb14 := dF hb14; exact absurd hw hb14
  · replace hb14 := dT hb14; refine W.condT rfl rfl<|W.seq rfl<|W.drawn rfl (by kernel_rfl) (Ctx _ _ (_) (_)) [6, 7] (.op 0 0 (.op 1 0 (.op 2 0 (.op 3 0 (.op 4 0 (.op 5 0 (.op 6 1 (.op 7 1 .nil)))))))) rfl (by kernel_rfl) hst.drew.ctx<|?_; replace hst := hst.drew; generalize World.drew _ = wd at hst ⊢; refine hst.z rfl (Y.moveP rfl)<|hst.z rfl (Y.nilCheck rfl)<|hst.z rfl (Y.fieldAddr fa86_0 rfl)<|hst.z rfl (Y.loadA 4 isAgg23 sizeOf23 rfl rfl rfl rfl)<|hst.z rfl (Y.moveI rfl)<|hst.z rfl (Y.loadA 3 isAgg57 sizeOf57 rfl rfl rfl rfl)<|Drw.z rfl rfl rfl rfl (X.call cf72 rfl<|?_); refine use_call (gnew_any p who s A cap hT _ _ _ _ _ hst hr) rfl ?_; clear hst; rintro e w21 ⟨fb, A2, c2, rfl, hst⟩; refine ⟨_, rfl, ?_⟩; refine Drw.zy rfl rfl rfl rfl hst.ctx (Y.assignP rfl)<|Drw.done<|W.seq rfl<|W.drawn rfl (by kernel_rfl) (Ctx _ _ (_) (_)) [6, 7, 8] (.op 0 0 (.op 1 0 (.op 2 2 (.op 3 2 (.op 4 2 (.op 5 0 (.op 6 1 (.op 7 1 (.op 8 1 .nil))))))))) rfl (by kernel_rfl) hst.drew.ctx<|?_; replace hst := hst.drew; generalize World.drew _ = wd at hst ⊢; refine hst.z rfl (Y.moveP rfl)<|hst.z rfl (Y.makeIface underlying150 rfl)<|Drw.ya rfl rfl rfl hst.ctx (Y.moveP rfl)<|Drw.ya rfl rfl rfl hst.ctx (Y.nilCheck rfl)<|Drw.ya rfl rfl rfl hst.ctx (Y.fieldAddr fa153_0 rfl)<|hst.z rfl (Y.fieldAddr fa96_1 rfl)<|Drw.z rfl rfl rfl rfl (X.storeV hst 1 (.iface _ _) sizeOf93 rfl rfl rfl rfl (lZ rfl) rfl rfl fun w4_6 hst => Drw.zy rfl rfl rfl rfl hst.ctx (Y.fieldAddr fa96_2 rfl)<|Drw.z rfl rfl rfl rfl (X.storeV hst 1 (.pointer _) sizeOf50 rfl rfl rfl rfl (lZ rfl) rfl rfl fun w4_8 hst => Drw.done<|W.sr rfl<|hst.y rfl (Y.loadA 1 isAgg96 sizeOf96 rfl rfl rfl rfl)<|Ops.ww rfl (X.storeS hst 3 sizeOf96 rfl rfl rfl rfl rfl (lZ rfl) rfl rfl fun w5_1 hst => Ops.done rfl<|W.ret rfl<|⟨_, Rslt.cell results49 rfl (res_at isAgg96 sizeOf96 3 hst rfl rfl), ?_⟩))); have hg : (⟨freshP p who s, fb, lb, 0, 0, A2, c2, 0⟩ : UM).gate = true := decide_eq_true hw; exact ⟨⟨freshP p who s, fb, lb, 0, 0, A2, c2, 0⟩, _, by unfold UM.un; rw [hg]; rfl, rfl, fun r hr => .tail _ hr, ⟨sane_fit hp s, Rds.rowG 0 rfl, nearFit_nil, qs0_fit⟩, (hst.sub (.cons_cons _ (.cons _ (.cons_cons _ (.cons _ (.cons _ (.cons_cons _ (.refl _))))))))⟩
theorem fresh_node (wb : Nat) (p : Par) (time : Int) (U V : Value) (hp : p.Ok) (who : Int) (hw : ¬ who < 16) (s : Stt) (A : Option Addr) (cap : Nat) (hT : TabFit s.tab) (w0 w : World) (F0 : List Nat) (L G : List Res) (hst : St w0 F0 w (cellsR wb (wC p time U V) 86 :: L) G) (hr : Rds [] G (.slice A (s.tab).length cap) (s.tab).length (lcs (s.tab))) :
    Calls Tryz.prog 49 #[.pointer (some ⟨wb, 0, none⟩), .int .i64 who, .agg #[.int .i64 s.lo, .int .i64 s.hi, .int .i64 s.time, .bool s.set, .int .i64 s.held, .int .i64 s.hops, .bool s.good, .slice A s.tab.length cap, .int .i64 s.st, .int .i64 s.sn, .int .i64 s.life]] w fun e w' => ∃ (m : UM) (G' : List Res), e = .returned (.agg (unC m.un).toArray) ∧ m.u = freshP p who s ∧ (∀ r ∈ G, r ∈ G') ∧ m.Ok p G' ∧ St w0 F0 w' (nodeR p m :: cellsR m.tb [.map (some m.mb)] 204 :: mapR ikE nrV m.mb m.u.es m.clock :: m.lres :: cellsR wb (wC p time U V) 86 :: L) G' := by
  refine W.func func49 rfl ntmps49 rfl<|W.sr rfl<|Ops.ww rfl (X.boxA hst rfl fun p5 w5 hst => Ops.ww rfl (X.allocA hst zeroValue96 fun p6 w6 hst => Ops.ds rfl rfl<|hst.y rfl (Y.moveI rfl)<|Ops.ww rfl (X.call cf71 rfl<|?_))); refine use_call (Go.Proofs.YtaanjifekgfemaaGreat.LN.new_any _ _ _ _ _ hst) rfl ?_; clear hst; rintro e w11 ⟨lb, rfl, hst⟩; replace hst := St.newQ hst; refine ⟨_, rfl, ?_⟩; refine hst.y rfl (bd96_0_3 rfl)<|Ops.ww rfl (X.allocA hst zeroValue96 fun p7 w7 hst => Ops.ww rfl (X.storeS hst 0 sizeOf96 rfl rfl rfl rfl rfl (lZ rfl) rfl rfl fun w1_4 hst => Ops.done rfl<|W.seq rfl<|W.sr rfl<|hst.y rfl (Y.moveI rfl)<|hst.yb rfl (Y.lss rfl rfl) (fun b14 hb14 => Ops.done rfl<|?_))); cases b14
  · replace hb14 := dF hb14; refine W.condF rfl rfl<|W.skip rfl<|W.seq rfl<|W.drawn rfl (by kernel_rfl) (Ctx _ _ (_) (_)) [6, 7] (.op 0 0 (.op 1 0 (.op 2 0 (.op 3 0 (.op 4 0 (.op 5 0 (.op 6 1 (.op 7 1 .nil)))))))) rfl (by kernel_rfl) hst.drew.ctx<|?_; replace hst := hst.drew; generalize World.drew _ = wd at hst ⊢; refine hst.z rfl (Y.moveP rfl)<|hst.z rfl (Y.nilCheck rfl)<|hst.z rfl (Y.fieldAddr fa86_0 rfl)<|hst.z rfl (Y.loadA 4 isAgg23 sizeOf23 rfl rfl rfl rfl)<|hst.z rfl (Y.moveI rfl)<|hst.z rfl (Y.loadA 3 isAgg57 sizeOf57 rfl rfl rfl rfl)<|Drw.z rfl rfl rfl rfl (X.call cf73 rfl<|?_); refine use_call (nnew_any p who s A cap hT _ _ _ _ _ hst hr) rfl ?_; clear hst; rintro e w36 ⟨fb, A2, c2, tb, mb, rfl, hst⟩; refine ⟨_, rfl, ?_⟩; refine Drw.zy rfl rfl rfl rfl hst.ctx (Y.assignP rfl)<|Drw.done<|W.seq rfl<|W.drawn rfl (by kernel_rfl) (Ctx _ _ (_) (_)) [6, 7, 8] (.op 0 0 (.op 1 0 (.op 2 2 (.op 3 2 (.op 4 2 (.op 5 0 (.op 6 1 (.op 7 1 (.op 8 1 .nil))))))))) rfl (by kernel_rfl) hst.drew.ctx<|?_; replace hst := hst.drew; generalize World.drew _ = wd at hst ⊢; refine hst.z rfl (Y.moveP rfl)<|hst.z rfl (Y.makeIface underlying154 rfl)<|Drw.ya rfl rfl rfl hst.ctx (Y.moveP rfl)<|Drw.ya rfl rfl rfl hst.ctx (Y.nilCheck rfl)<|Drw.ya rfl rfl rfl hst.ctx (Y.fieldAddr fa158_0 rfl)<|hst.z rfl (Y.fieldAddr fa96_1 rfl)<|Drw.z rfl rfl rfl rfl (X.storeV hst 3 (.iface _ _) sizeOf93 rfl rfl rfl rfl (lZ rfl) rfl rfl fun w7_6 hst => Drw.zy rfl rfl rfl rfl hst.ctx (Y.fieldAddr fa96_2 rfl)<|Drw.z rfl rfl rfl rfl (X.storeV hst 3 (.pointer _) sizeOf50 rfl rfl rfl rfl (lZ rfl) rfl rfl fun w7_8 hst => Drw.done<|W.sr rfl<|hst.y rfl (Y.loadA 3 isAgg96 sizeOf96 rfl rfl rfl rfl)<|Ops.ww rfl (X.storeS hst 5 sizeOf96 rfl rfl rfl rfl rfl (lZ rfl) rfl rfl fun w8_1 hst => Ops.done rfl<|W.ret rfl<|⟨_, Rslt.cell results49 rfl (res_at isAgg96 sizeOf96 5 hst rfl rfl), ?_⟩))); have hg : (⟨freshP p who s, fb, lb, tb, mb, A2, c2, 0⟩ : UM).gate = false := decide_eq_false hw; exact ⟨⟨freshP p who s, fb, lb, tb, mb, A2, c2, 0⟩, _, by unfold UM.un; rw [hg]; rfl, rfl, fun r hr => .tail _ hr, ⟨sane_fit hp s, Rds.rowG 0 rfl, nearFit_nil, qs0_fit⟩, (hst.sub (.cons_cons _ (.cons_cons _ (.cons_cons _ (.cons _ (.cons_cons _ (.cons _ (.cons _ (.cons_cons _ (.refl _))))))))))⟩
  · replace hb14 := dT hb14; exact absurd hb14 hw
theorem fresh_any (wb : Nat) (p : Par) (time : Int) (U V : Value) (hp : p.Ok) (who : Int) (s : Stt) (A : Option Addr) (cap : Nat) (hT : TabFit s.tab) (w0 w : World) (F0 : List Nat) (L G : List Res) (hst : St w0 F0 w (cellsR wb (wC p time U V) 86 :: L) G) (hr : Rds [] G (.slice A (s.tab).length cap) (s.tab).length (lcs (s.tab))) :
    Calls Tryz.prog 49 #[.pointer (some ⟨wb, 0, none⟩), .int .i64 who, .agg #[.int .i64 s.lo, .int .i64 s.hi, .int .i64 s.time, .bool s.set, .int .i64 s.held, .int .i64 s.hops, .bool s.good, .slice A s.tab.length cap, .int .i64 s.st, .int .i64 s.sn, .int .i64 s.life]] w fun e w' => ∃ (m : UM) (G' : List Res), e = .returned (.agg (unC m.un).toArray) ∧ m.u = freshP p who s ∧ (∀ r ∈ G, r ∈ G') ∧ m.Ok p G' ∧ St w0 F0 w' (cellsR wb (wC p time U V) 86 :: m.lres :: (m.fres p ++ L)) G' := by
  have key : ∀ (A B : List Res) (x y : Res), (A ++ (x :: y :: B)).Perm (y :: x :: (A ++ B)) := fun A B x y =>
    (List.perm_middle.trans (List.perm_middle.cons x)).trans (List.Perm.swap y x _)
  by_cases h : who < 16
  · refine (fresh_gate wb p time U V hp who h s A cap hT _ _ _ _ _ hst hr).mono ?_; rintro e w' ⟨m, G', h1, h2, h3, h4, h5⟩; have hg : m.gate = true := by unfold UM.gate; rw [h2]; exact decide_eq_true h
    have hf : m.fres p = [gateR p m] := by unfold UM.fres; rw [hg]
    exact ⟨m, G', h1, h2, h3, h4, by rw [hf]; exact h5.perm (key [_] _ _ _)⟩
  · refine (fresh_node wb p time U V hp who h s A cap hT _ _ _ _ _ hst hr).mono ?_; rintro e w' ⟨m, G', h1, h2, h3, h4, h5⟩; have hg : m.gate = false := by unfold UM.gate; rw [h2]; exact decide_eq_false h
    have hf : m.fres p = [nodeR p m, cellsR m.tb [.map (some m.mb)] 204, mapR ikE nrV m.mb m.u.es m.clock] := by unfold UM.fres; rw [hg]
    exact ⟨m, G', h1, h2, h3, h4, by rw [hf]; exact h5.perm (key [_, _, _] _ _ _)⟩
theorem fa96_3 : FA 96 3 3 := fun _ _ => by simp [Instr.fieldAt, Instr.sureAddr, go_sem]
theorem cf49 : CF 49 := fun _ _ => by simp [go_sem]
theorem cf54 : CF 54 := fun _ _ => by simp [go_sem]
theorem unit_in (wb : Nat) (p : Par) (time : Int) (ub : Nat) (us : List Un) (uc : Nat) (LA : Option Addr) (nl lc : Nat) (who : Int) (hul : us.length ≤ 1000000) (i : Nat) (hi : idxI (isU who) us = (i : Int)) (w0 w : World) (F0 : List Nat) (L G : List Res) (hst : St w0 F0 w (cellsR wb (wC p (time) (.slice (some ⟨ub, 0, none⟩) us.length uc) (.slice LA nl lc)) 86 :: L) G) (hru : Rds L G (.slice (some ⟨ub, 0, none⟩) us.length uc) us.length (flat unC us)) :
    Calls Tryz.prog 34 #[.pointer (some ⟨wb, 0, none⟩), .int .i64 who] w fun e w' => e = .returned (.pointer (some ⟨ub, i * 4, none⟩)) ∧ St w0 F0 w' (cellsR wb (wC p (time) (.slice (some ⟨ub, 0, none⟩) us.length uc) (.slice LA nl lc)) 86 :: L) G := by
  have hq : unitAt us who ub = some ⟨ub, i * 4, none⟩ := by unfold unitAt; rw [hi, if_neg (by omega)]; rfl
  rw [← hq]; exact unit_any wb p time ub us uc LA nl lc who hul _ _ _ _ _ hst hru
theorem unit_out (wb : Nat) (p : Par) (time : Int) (ub : Nat) (us : List Un) (uc : Nat) (LA : Option Addr) (nl lc : Nat) (who : Int) (hul : us.length ≤ 1000000) (hi : idxI (isU who) us < 0) (w0 w : World) (F0 : List Nat) (L G : List Res) (hst : St w0 F0 w (cellsR wb (wC p (time) (.slice (some ⟨ub, 0, none⟩) us.length uc) (.slice LA nl lc)) 86 :: L) G) (hru : Rds L G (.slice (some ⟨ub, 0, none⟩) us.length uc) us.length (flat unC us)) :
    Calls Tryz.prog 34 #[.pointer (some ⟨wb, 0, none⟩), .int .i64 who] w fun e w' => e = .returned (.pointer none) ∧ St w0 F0 w' (cellsR wb (wC p (time) (.slice (some ⟨ub, 0, none⟩) us.length uc) (.slice LA nl lc)) 86 :: L) G := by
  have hq : unitAt us who ub = none := by unfold unitAt; rw [if_pos hi]
  rw [← hq]; exact unit_any wb p time ub us uc LA nl lc who hul _ _ _ _ _ hst hru
theorem perm_bk2 {α : Type} (x y a b : α) (F L : List α) : (x :: y :: (F ++ (a :: b :: L))).Perm (x :: a :: b :: y :: (F ++ L)) := by
  have h1 : (F ++ (a :: b :: L)).Perm (a :: b :: (F ++ L)) := List.perm_middle.trans (List.perm_middle.cons a); exact ((h1.cons y).trans (List.perm_middle (l₁ := [a, b])).symm).cons x
theorem idx_lt {us : List Un} {who : Int} {i : Nat} (hi : idxI (isU who) us = (i : Int)) : i < us.length := by have := idxI_lt (p := isU who) (l := us) (by omega); omega
set_option maxHeartbeats 1000000 in
theorem begin_in (wb : Nat) (p : Par) (time : Int) (ub : Nat) (us : List Un) (uc : Nat) (LA : Option Addr) (nl lc : Nat) (hp : p.Ok) (who : Int) (s : Stt) (A : Option Addr) (cap : Nat) (hT : TabFit s.tab) (hul : us.length ≤ 1000000) (i : Nat) (hi : idxI (isU who) us = (i : Int)) (w0 w : World) (F0 : List Nat) (L G : List Res) (hst : St w0 F0 w (cellsR wb (wC p (time) (.slice (some ⟨ub, 0, none⟩) us.length uc) (.slice LA nl lc)) 86 :: rowR (.slice (some ⟨ub, 0, none⟩) us.length uc) 96 4 us.length (flat unC (us)) :: L) G) (hr : Rds [] G (.slice A (s.tab).length cap) (s.tab).length (lcs (s.tab))) :
    Calls Tryz.prog 25 #[.pointer (some ⟨wb, 0, none⟩), .int .i64 who, .agg #[.int .i64 s.lo, .int .i64 s.hi, .int .i64 s.time, .bool s.set, .int .i64 s.held, .int .i64 s.hops, .bool s.good, .slice A s.tab.length cap, .int .i64 s.st, .int .i64 s.sn, .int .i64 s.life]] w fun e w' => ∃ (m : UM) (G' : List Res), e = .returned (.tuple #[]) ∧ m.u = freshP p who s ∧ (∀ r ∈ G, r ∈ G') ∧ m.Ok p G' ∧ St w0 F0 w' (cellsR wb (wC p (time) (.slice (some ⟨ub, 0, none⟩) us.length uc) (.slice LA nl lc)) 86 :: rowR (.slice (some ⟨ub, 0, none⟩) us.length uc) 96 4 us.length (flat unC (us.set i m.un)) :: m.lres :: (m.fres p ++ L)) G' := by
  have hlt := idx_lt hi; refine W.func func25 rfl ntmps25 rfl<|W.sr rfl<|Ops.ww rfl (X.boxA hst rfl fun p5 w5 hst => Ops.ds rfl rfl<|hst.y rfl (Y.moveP rfl)<|hst.y rfl (Y.moveI rfl)<|Ops.ww rfl (X.ret cf34 (dn1 (unit_in wb p time ub us uc LA nl lc who hul i hi _ _ _ _ _ hst.up_1 (Rds.rowL 1 rfl))) rfl fun w9 hst => hst.y rfl (Y.assignP rfl)<|Ops.ds rfl rfl<|hst.y rfl (Y.moveP rfl)<|hst.y rfl (Y.notNil underlying91 rfl rfl)<|Ops.done rfl<|W.condT rfl rfl<|W.region rfl<|hst.y rfl (Y.moveP rfl)<|hst.y rfl (Y.moveP rfl)<|hst.y rfl (Y.moveI rfl)<|hst.y rfl (Y.loadA 0 isAgg57 sizeOf57 rfl rfl rfl rfl)<|Ops.ww rfl (X.call cf49 rfl<|?_))); refine use_call (fresh_any wb p time _ _ hp who s A cap hT _ _ _ _ _ hst.up_1 hr) rfl ?_; clear hst; rintro e w16 ⟨m, G', rfl, hmu, hG, hok, hst⟩; replace hst := (hst.perm (perm_bk2 _ _ _ _ _ _)).dn1; refine ⟨_, rfl, ?_⟩; refine hst.y rfl (Y.nilCheck rfl)<|Ops.ww rfl (X.storeRow hst 2 sizeOf96 (b := ub) (i := i * 4) rfl rfl rfl rfl (fun v hv => unC_one _ v hv) (by omega) fun w36 hst => Ops.done rfl<|⟨_, Rslt.none results25, ?_⟩); have hst2 := (hst.dr 1); have he : Go.Proofs.YtaanjifekgfemaaGreat.K.splice (flat unC us) (i * 4) (unC m.un) = flat unC (us.set i m.un) := flat_set unC_len us i m.un hlt; rw [he] at hst2; exact ⟨m, G', rfl, hmu, hG, hok, hst2⟩
theorem begin_out (wb : Nat) (p : Par) (time : Int) (ub : Nat) (us : List Un) (uc : Nat) (LA : Option Addr) (nl lc : Nat) (who : Int) (s : Stt) (A : Option Addr) (cap : Nat) (hul : us.length ≤ 1000000) (hi : idxI (isU who) us < 0) (w0 w : World) (F0 : List Nat) (L G : List Res) (hst : St w0 F0 w (cellsR wb (wC p (time) (.slice (some ⟨ub, 0, none⟩) us.length uc) (.slice LA nl lc)) 86 :: rowR (.slice (some ⟨ub, 0, none⟩) us.length uc) 96 4 us.length (flat unC (us)) :: L) G) :
    Calls Tryz.prog 25 #[.pointer (some ⟨wb, 0, none⟩), .int .i64 who, .agg #[.int .i64 s.lo, .int .i64 s.hi, .int .i64 s.time, .bool s.set, .int .i64 s.held, .int .i64 s.hops, .bool s.good, .slice A s.tab.length cap, .int .i64 s.st, .int .i64 s.sn, .int .i64 s.life]] w fun e w' => e = .returned (.tuple #[]) ∧ St w0 F0 w' (cellsR wb (wC p (time) (.slice (some ⟨ub, 0, none⟩) us.length uc) (.slice LA nl lc)) 86 :: rowR (.slice (some ⟨ub, 0, none⟩) us.length uc) 96 4 us.length (flat unC (us)) :: L) G := by
  refine W.func func25 rfl ntmps25 rfl<|W.sr rfl<|Ops.ww rfl (X.boxA hst rfl fun p5 w5 hst => Ops.ds rfl rfl<|hst.y rfl (Y.moveP rfl)<|hst.y rfl (Y.moveI rfl)<|Ops.ww rfl (X.ret cf34 (dn1 (unit_out wb p time ub us uc LA nl lc who hul hi _ _ _ _ _ hst.up_1 (Rds.rowL 1 rfl))) rfl fun w9 hst => hst.y rfl (Y.assignP rfl)<|Ops.ds rfl rfl<|hst.y rfl (Y.moveP rfl)<|hst.y rfl (Y.notNil underlying91 rfl rfl)<|Ops.done rfl<|W.condF rfl rfl<|W.skip rfl<|⟨_, Rslt.none results25, ?_⟩)); exact ⟨rfl, (hst.dr 1)⟩
theorem put_in (wb : Nat) (p : Par) (time : Int) (ub : Nat) (us : List Un) (uc : Nat) (LA : Option Addr) (nl lc : Nat) (l : Int × Int) (fr : ByteArray) (qs : Qs) (hul : us.length ≤ 1000000) (i : Nat) (hi : idxI (isU l.2) us = (i : Int)) (hlt : i < us.length) (w0 w : World) (F0 : List Nat) (L G : List Res) (hst : St w0 F0 w (cellsR wb (wC p (time) (.slice (some ⟨ub, 0, none⟩) us.length uc) (.slice LA nl lc)) 86 :: QR us[i].lb 0 qs :: L) G) (hru : Rds L G (.slice (some ⟨ub, 0, none⟩) us.length uc) us.length (flat unC us)) :
    Calls Tryz.prog 26 #[.pointer (some ⟨wb, 0, none⟩), .agg (pairC l).toArray, .string fr] w fun e w' => ∃ v, e = .returned v ∧ St w0 F0 w' (cellsR wb (wC p (time) (.slice (some ⟨ub, 0, none⟩) us.length uc) (.slice LA nl lc)) 86 :: QR us[i].lb 0 (pushQ qs l.1 fr) :: L) G := by
  have hru0 := hru; replace hru := (hru.cons (QR us[i].lb 0 qs)).cons (cellsR wb (wC p (time) (.slice (some ⟨ub, 0, none⟩) us.length uc) (.slice LA nl lc)) 86); refine W.func func26 rfl ntmps26 rfl<|W.sr rfl<|Ops.ww rfl (X.boxA hst rfl fun p4 w4 hst => hst.y rfl (Y.assignI rfl)<|Ops.ds rfl rfl<|hst.y rfl (Y.moveP rfl)<|hst.y rfl (Y.fieldAddr fa77_1 rfl)<|hst.y rfl (Y.load 0 isAgg3 rfl rfl rfl)<|Ops.ww rfl (X.ret cf34 (dn1 (unit_in wb p time ub us uc LA nl lc l.2 hul i hi _ _ _ _ _ hst.up_1 ((hru0.cons _).cons _))) rfl fun w11 hst => hst.y rfl (Y.assignP rfl)<|Ops.done rfl<|W.seq rfl<|W.block rfl<|W.sr rfl<|hst.y rfl (Y.moveP rfl)<|hst.y rfl (Y.isNil underlying45 rfl rfl)<|hst.y rfl (Y.assignB rfl)<|Ops.done rfl<|W.condF rfl rfl<|W.sr rfl<|hst.y rfl (Y.moveP rfl)<|hst.y rfl (Y.isNil underlying91 rfl rfl)<|hst.y rfl (Y.assignB rfl)<|Ops.done rfl<|W.condF rfl rfl<|W.skip rfl<|W.seq rfl<|W.drawn rfl (by kernel_rfl) (Ctx _ _ (_) (_)) [7, 8] (.op 0 0 (.op 1 0 (.op 2 0 (.op 3 0 (.op 4 0 (.op 5 0 (.op 6 0 (.op 7 1 (.op 8 1 .nil))))))))) rfl (by kernel_rfl) hst.drew.ctx<|?_)); replace hst := hst.drew; generalize World.drew _ = wd at hst ⊢; refine hst.z rfl (Y.moveP rfl)<|hst.z rfl (Y.nilCheck rfl)<|?_
  first
  | refine hst.z rfl (Y.fieldAddr fa96_3 rfl) ?_
  | refine hst.z rfl (Y.fieldAddrP fa96_3 rfl) ?_
  refine hst.z rfl (Y.loadCell isAgg94 rfl (hru.cons _) ((flat_get unC_len us i 3 hlt (by decide)).trans rfl)) ?_; refine hst.z rfl (Y.fieldAddr fa77_0 rfl)<|hst.z rfl (Y.load 0 isAgg3 rfl rfl rfl)<|hst.z rfl (Y.moveT rfl)<|Drw.z rfl rfl rfl rfl (X.ret cf54 (dn2 (Push_any us[i].lb 0 qs l.1 fr _ _ _ _ _ hst.up_2 (by decide))) rfl fun w25 hst => ?_); refine Drw.zy rfl rfl rfl rfl hst.ctx (Y.assignI rfl)<|Drw.done<|W.ret rfl<|⟨_, Rslt.one results26 rfl, ?_⟩; exact ⟨_, rfl, (hst.dr 1)⟩
theorem put_out (wb : Nat) (p : Par) (time : Int) (ub : Nat) (us : List Un) (uc : Nat) (LA : Option Addr) (nl lc : Nat) (l : Int × Int) (fr : ByteArray) (hul : us.length ≤ 1000000) (hi : idxI (isU l.2) us < 0) (w0 w : World) (F0 : List Nat) (L G : List Res) (hst : St w0 F0 w (cellsR wb (wC p (time) (.slice (some ⟨ub, 0, none⟩) us.length uc) (.slice LA nl lc)) 86 :: L) G) (hru : Rds L G (.slice (some ⟨ub, 0, none⟩) us.length uc) us.length (flat unC us)) :
    Calls Tryz.prog 26 #[.pointer (some ⟨wb, 0, none⟩), .agg (pairC l).toArray, .string fr] w fun e w' => ∃ v, e = .returned v ∧ St w0 F0 w' (cellsR wb (wC p (time) (.slice (some ⟨ub, 0, none⟩) us.length uc) (.slice LA nl lc)) 86 :: L) G := by
  refine W.func func26 rfl ntmps26 rfl<|W.sr rfl<|Ops.ww rfl (X.boxA hst rfl fun p4 w4 hst => hst.y rfl (Y.assignI rfl)<|Ops.ds rfl rfl<|hst.y rfl (Y.moveP rfl)<|hst.y rfl (Y.fieldAddr fa77_1 rfl)<|hst.y rfl (Y.load 0 isAgg3 rfl rfl rfl)<|Ops.ww rfl (X.ret cf34 (dn1 (unit_out wb p time ub us uc LA nl lc l.2 hul hi _ _ _ _ _ hst.up_1 (hru.cons _))) rfl fun w11 hst => hst.y rfl (Y.assignP rfl)<|Ops.done rfl<|W.seq rfl<|W.block rfl<|W.sr rfl<|hst.y rfl (Y.moveP rfl)<|hst.y rfl (Y.isNil underlying45 rfl rfl)<|hst.y rfl (Y.assignB rfl)<|Ops.done rfl<|W.condF rfl rfl<|W.sr rfl<|hst.y rfl (Y.moveP rfl)<|hst.y rfl (Y.isNil underlying91 rfl rfl)<|hst.y rfl (Y.assignB rfl)<|Ops.done rfl<|W.condT rfl rfl<|W.sr rfl<|hst.y rfl (Y.assignI rfl)<|Ops.done rfl<|W.ret rfl<|⟨_, Rslt.one results26 rfl, ?_⟩)); exact ⟨_, rfl, (hst.dr 1)⟩
theorem front_in (wb : Nat) (p : Par) (time : Int) (ub : Nat) (us : List Un) (uc : Nat) (LA : Option Addr) (nl lc : Nat) (who : Int) (hul : us.length ≤ 1000000) (i : Nat) (hi : idxI (isU who) us = (i : Int)) (hlt : i < us.length) (w0 w : World) (F0 : List Nat) (L G : List Res) (hst : St w0 F0 w (cellsR wb (wC p (time) (.slice (some ⟨ub, 0, none⟩) us.length uc) (.slice LA nl lc)) 86 :: L) G) (hru : Rds L G (.slice (some ⟨ub, 0, none⟩) us.length uc) us.length (flat unC us)) :
    Calls Tryz.prog 11 #[.pointer (some ⟨wb, 0, none⟩), .int .i64 who] w fun e w' => e = .returned (.pointer (some ⟨us[i].fb, 0, none⟩)) ∧ St w0 F0 w' (cellsR wb (wC p (time) (.slice (some ⟨ub, 0, none⟩) us.length uc) (.slice LA nl lc)) 86 :: L) G := by
  have hru2 := hru.cons (cellsR wb (wC p (time) (.slice (some ⟨ub, 0, none⟩) us.length uc) (.slice LA nl lc)) 86); refine W.func func11 rfl ntmps11 rfl<|W.sr rfl<|hst.y rfl (Y.assignP rfl)<|Ops.done rfl<|W.seq rfl<|W.sr rfl<|hst.y rfl (Y.moveP rfl)<|hst.y rfl (Y.moveI rfl)<|Ops.ww rfl (X.ret cf34 (unit_in wb p time ub us uc LA nl lc who hul i hi _ _ _ _ _ hst hru) rfl fun w8 hst => hst.y rfl (Y.assignP rfl)<|Ops.ds rfl rfl<|hst.y rfl (Y.moveP rfl)<|hst.y rfl (Y.notNil underlying91 rfl rfl)<|Ops.done rfl<|W.condT rfl rfl<|W.sr rfl<|hst.y rfl (Y.moveP rfl)<|hst.y rfl (Y.nilCheck rfl)<|?_)
  first
  | refine hst.y rfl (Y.fieldAddr fa96_2 rfl) ?_
  | refine hst.y rfl (Y.fieldAddrP fa96_2 rfl) ?_
  refine hst.y rfl (Y.loadCell isAgg50 rfl hru2 ((flat_get unC_len us i 2 hlt (by decide)).trans rfl)) ?_; refine hst.y rfl (Y.assignP rfl)<|Ops.done rfl<|W.ret rfl<|⟨_, Rslt.one results11 rfl, ?_⟩; exact ⟨rfl, hst⟩
end Go.Proofs.YtaanjifekgfemaaGreat.Cl
end
section
namespace Go.Proofs.YtaanjifekgfemaaGreat.W
open Tryz
open Go.RowKit Go.Proofs.YtaanjifekgfemaaGreat.K Go.Proofs.YtaanjifekgfemaaGreat.CM
theorem four_of {l : List UInt8} (h : l.length = 4) : ∃ a b c d, l = [a, b, c, d] := by
  match l, h with
  | [a, b, c, d], _ => exact ⟨a, b, c, d, rfl⟩
theorem open_any (v : Value) (l : List UInt8) (w0 w : World) (F0 : List Nat) (L G : List Res) (hst : St w0 F0 w L G) (h : Rds L G v l.length (bvs l)) (hl : l.length ≤ 1000000) :
    Calls Tryz.prog 83 #[v] w fun e w' => ∃ u, ∃ b, e = .returned (.tuple #[u, .bool b]) ∧ b = decide (opn l ≠ none) ∧ St w0 F0 w' (rowR u 5 1 ((opn l).getD []).length (bvs ((opn l).getD [])) :: L) G := by
  by_cases h4 : l.length < 4
  · refine (CW.open_short v l w0 w F0 L G hst h h4).mono ?_; rintro e w' ⟨rfl, hst⟩; have e : opn l = none := by unfold opn; rw [if_pos h4]
    rw [e]; exact ⟨_, false, rfl, by simp, hst.nilRow 5 1⟩
  · have hd : (l.drop (l.length - 4)).length = 4 := by rw [List.length_drop]; omega
    have htl : (l.take (l.length - 4)).length = l.length - 4 := by rw [List.length_take]; omega
    have hsp : l.take (l.length - 4) ++ l.drop (l.length - 4) = l := List.take_append_drop _ _
    by_cases hs : l.drop (l.length - 4) = le4 (crc (l.take (l.length - 4)))
    · have e : opn l = some (l.take (l.length - 4)) := by unfold opn; rw [if_neg h4, if_pos hs]
      have hse : sealed (l.take (l.length - 4)) = l := by unfold sealed; rw [← hs]; exact hsp
      refine (CW.open_yes v (l.take (l.length - 4)) w0 w F0 L G hst (by rw [hse, htl, show l.length - 4 + 4 = l.length by omega]; exact h) (by omega)).mono ?_; rintro e w' ⟨u, rfl, hst⟩; rw [e]; exact ⟨u, true, rfl, by simp, hst⟩
    · have e : opn l = none := by unfold opn; rw [if_neg h4, if_neg hs]
      obtain ⟨s0, s1, s2, s3, h5⟩ := four_of hd; rw [h5] at hs hsp; refine (CW.open_no v (l.take (l.length - 4)) s0 s1 s2 s3 w0 w F0 L G hst (by rw [hsp, htl, show l.length - 4 + 4 = l.length by omega]; exact h) (by omega) hs).mono ?_; rintro e w' ⟨rfl, hst⟩; rw [e]; exact ⟨_, false, rfl, by simp, hst.nilRow 5 1⟩
def M.cells (m : M) (A : Option Addr) (cap : Nat) : List Value := [.int .i64 m.kind, .int .i64 m.from_, .int .i64 m.slo, .int .i64 m.shi, .int .i64 m.held, .int .i64 m.hops, .bool m.good, .bool m.ref, .int .i64 m.elo, .int .i64 m.ehi, .int .i64 m.pulse, .int .i64 m.time, .int .i64 m.num, .slice A m.tab.length cap]
def DPost (l : List UInt8) (w0 : World) (F0 : List Nat) (L G : List Res) (e : Ending) (w' : World) : Prop :=
  ∃ A cap, e = .returned (.tuple #[.agg ((decR l).1.cells A cap).toArray, .int .i64 (decR l).2]) ∧ St w0 F0 w' (rowR (.slice A (decR l).1.tab.length cap) 114 2 (decR l).1.tab.length (lcs (decR l).1.tab) :: L) G
theorem dec_fail {l : List UInt8} {er : Int} {w0 w' : World} {F0 : List Nat} {L G : List Res} (hd : decR l = (M0, er)) (hst : St w0 F0 w' L G) : DPost l w0 F0 L G (.returned (.tuple #[.agg zms.toArray, .int .i64 er])) w' := by
  refine ⟨none, 0, by rw [hd]; rfl, ?_⟩; rw [hd]; exact hst.nilRow 114 2
theorem decR_long {l : List UInt8} (h : 4096 < l.length) : decR l = (M0, 3) := by unfold decR; rw [if_pos h]
theorem decR_sum {l : List UInt8} (h : ¬ 4096 < l.length) (h2 : opn l = none) : decR l = (M0, 5) := by unfold decR; rw [if_neg h, h2]
theorem Y.byteInt {P : Program} {S : World → Prop} {ρ : Env} {ty t t' : TypeId} {x : Operand} {c : UInt8} (ht : P.underlying t' = some (.int .i64)) (hs : P.underlying t = some (.int .u8)) (hx : ev ρ x = .int .u8 (c.toNat : Int)) : Y P S ρ (.convert t t' x) ty (.int .i64 (c.toNat : Int)) := by
  have h := UInt8.toNat_lt c; have e : IntKind.i64.wrap (c.toNat : Int) = (c.toNat : Int) := IntWalk.i64_in _ (by omega); have := Y.conv (S := S) (ty := ty) ht hs hx; rwa [e] at this
theorem Y.and1 {P : Program} {S : World → Prop} {ρ : Env} {ty t t' : TypeId} {x : Operand} {c : UInt8} (hx : ev ρ x = .int .u8 (c.toNat : Int)) : Y P S ρ (.binOp .and t x (.const (.int .u8 1)) t') ty (.int .u8 (IntKind.u8.wrap (BitVec.ofInt IntKind.u8.bits (c.toNat : Int) &&& BitVec.ofInt IntKind.u8.bits 1).toNat)) := Y.and hx rfl
theorem Y.and2 {P : Program} {S : World → Prop} {ρ : Env} {ty t t' : TypeId} {x : Operand} {c : UInt8} (hx : ev ρ x = .int .u8 (c.toNat : Int)) : Y P S ρ (.binOp .and t x (.const (.int .u8 2)) t') ty (.int .u8 (IntKind.u8.wrap (BitVec.ofInt IntKind.u8.bits (c.toNat : Int) &&& BitVec.ofInt IntKind.u8.bits 2).toNat)) := Y.and hx rfl
theorem bit1_eq (n : Nat) (h : n ≤ 3) : decide (IntKind.u8.wrap (BitVec.ofInt IntKind.u8.bits (n : Int) &&& BitVec.ofInt IntKind.u8.bits 1).toNat = 1) = decide (n % 2 = 1) := by
  rcases (show n = 0 ∨ n = 1 ∨ n = 2 ∨ n = 3 by omega) with rfl | rfl | rfl | rfl <;> decide
theorem bit2_eq (n : Nat) (h : n ≤ 3) : decide (IntKind.u8.wrap (BitVec.ofInt IntKind.u8.bits (n : Int) &&& BitVec.ofInt IntKind.u8.bits 2).toNat = 2) = decide (n / 2 % 2 = 1) := by
  rcases (show n = 0 ∨ n = 1 ∨ n = 2 ∨ n = 3 by omega) with rfl | rfl | rfl | rfl <;> decide
theorem Y.bit1 {P : Program} {S : World → Prop} {ρ : Env} {ty t t' : TypeId} {x : Operand} {n : Nat} (h : n ≤ 3) (hx : ev ρ x = .int .u8 (IntKind.u8.wrap (BitVec.ofInt IntKind.u8.bits (n : Int) &&& BitVec.ofInt IntKind.u8.bits 1).toNat)) : Y P S ρ (.binOp .eql t x (.const (.int .u8 1)) t') ty (.bool (decide (n % 2 = 1))) := by
  rw [← bit1_eq n h]; exact Y.eql hx rfl
theorem Y.bit2 {P : Program} {S : World → Prop} {ρ : Env} {ty t t' : TypeId} {x : Operand} {n : Nat} (h : n ≤ 3) (hx : ev ρ x = .int .u8 (IntKind.u8.wrap (BitVec.ofInt IntKind.u8.bits (n : Int) &&& BitVec.ofInt IntKind.u8.bits 2).toNat)) : Y P S ρ (.binOp .eql t x (.const (.int .u8 2)) t') ty (.bool (decide (n / 2 % 2 = 1))) := by
  rw [← bit2_eq n h]; exact Y.eql hx rfl
theorem decR_some {l p : List UInt8} (h : ¬ 4096 < l.length) (h2 : opn l = some p) : decR l = if FormOk p then (if (rdM p).Ok then (rdM p, 0) else (M0, 4)) else (M0, 4) := by unfold decR; rw [if_neg h, h2]
theorem decR_form {l p : List UInt8} (h : ¬ 4096 < l.length) (h2 : opn l = some p) (h3 : ¬ FormOk p) : decR l = (M0, 4) := by rw [decR_some h h2, if_neg h3]
theorem decR_bad {l p : List UInt8} (h : ¬ 4096 < l.length) (h2 : opn l = some p) (h3 : ¬ (rdM p).Ok) : decR l = (M0, 4) := by
  rw [decR_some h h2]
  by_cases hf : FormOk p
  · rw [if_pos hf, if_neg h3]
  · rw [if_neg hf]
theorem decR_ok {l p : List UInt8} (h : ¬ 4096 < l.length) (h2 : opn l = some p) (h3 : FormOk p) (h4 : (rdM p).Ok) : decR l = (rdM p, 0) := by rw [decR_some h h2, if_pos h3, if_pos h4]
def rdK (p : List UInt8) (k : Nat) : M := { rdM p with tab := rdTab p k }
theorem fk9 (q : List UInt8) : fk [.int .i64 ((q.getD 0 0).toNat : Int), .int .i64 ((q.getD 1 0).toNat : Int), .int .i64 0, .int .i64 0, .int .i64 0, .int .i64 0, .bool (decide ((q.getD 2 0).toNat % 2 = 1)), .bool (decide ((q.getD 2 0).toNat / 2 % 2 = 1)), .int .i64 0, .int .i64 0, .int .i64 0, .int .i64 0, .int .i64 0, .slice none 0 0] [2, 3, 4, 5, 8, 9, 10, 11, 12] (q.drop 4) 9 = (rdK q 0).cells none 0 := by
  simp [fk, M.cells, rdK, rdM, numAt, List.drop_drop, gb, rdTab]
theorem rd8_in (l : List UInt8) : In64 (rd8 l) := by
  unfold rd8 In64; have := IntKind.wrap_i64 (rdn l : Int); omega
theorem rdTab_in (q : List UInt8) (k : Nat) : ∀ x ∈ rdTab q k, In64 x.1 ∧ In64 x.2 := by
  intro x hx; simp only [rdTab, List.mem_map] at hx; obtain ⟨i, _, rfl⟩ := hx; exact ⟨rd8_in _, rd8_in _⟩
theorem dec_done {l q : List UInt8} {A : Option Addr} {c : Nat} {w0 w' : World} {F0 : List Nat} {L G : List Res} (hd : decR l = (rdM q, 0)) (hst : St w0 F0 w' (rowR (.slice A (rdM q).tab.length c) 114 2 (rdM q).tab.length (lcs (rdM q).tab) :: L) G) : DPost l w0 F0 L G (.returned (.tuple #[.agg ((rdM q).cells A c).toArray, .int .i64 0])) w' := by
  refine ⟨A, c, by rw [hd], ?_⟩; rw [hd]; exact hst
def cellsK (q : List UInt8) (A : Option Addr) (k c : Nat) : List Value := [.int .i64 (rdM q).kind, .int .i64 (rdM q).from_, .int .i64 (rdM q).slo, .int .i64 (rdM q).shi, .int .i64 (rdM q).held, .int .i64 (rdM q).hops, .bool (rdM q).good, .bool (rdM q).ref, .int .i64 (rdM q).elo, .int .i64 (rdM q).ehi, .int .i64 (rdM q).pulse, .int .i64 (rdM q).time, .int .i64 (rdM q).num, .slice A k c]
theorem rdTab_length (q : List UInt8) (k : Nat) : (rdTab q k).length = k := by simp [rdTab]
theorem rdTab_snoc (q : List UInt8) (k : Nat) : rdTab q (k + 1) = rdTab q k ++ [(numAt q (9 + 2 * k), numAt q (10 + 2 * k))] := by simp [rdTab, List.range_succ]
theorem infoLeap : (Tryz.prog.info? 114).map (fun i => (i.zero, i.size, i.bytes)) = some (some (.agg #[.int .i64 0, .int .i64 0]), 2, 16) := by kernel_rfl
theorem fk2 (q : List UInt8) (k : Nat) : fk [.int .i64 0, .int .i64 0] [0, 1] (q.drop (76 + 16 * k)) 2 = lcs [(numAt q (9 + 2 * k), numAt q (10 + 2 * k))] := by
  simp [fk, numAt, List.drop_drop, lcs]; constructor <;> congr 3 <;> omega
theorem bd103_0_1_5_6 {S ρ ty} {parts : Array (Nat × Operand)} {x0 : Int} {x1 : Int} {x5 : Bool} {x6 : Bool} (hp : (parts.toList.map fun x => (x.1, ev ρ x.2)) = [(0, Value.int .i64 x0), (1, Value.int .i64 x1), (5, Value.bool x5), (6, Value.bool x6)]) : Y Tryz.prog S ρ (.build 103 parts) ty (.agg #[Value.int .i64 x0, Value.int .i64 x1, Value.int .i64 0, Value.int .i64 0, Value.int .i64 0, Value.int .i64 0, Value.bool x5, Value.bool x6, Value.int .i64 0, Value.int .i64 0, Value.int .i64 0, Value.int .i64 0, Value.int .i64 0, Value.slice none 0 0]) :=
  Y.build hp fun w => by simp [Instr.build, go_sem]
theorem bd114_ {S ρ ty} {parts : Array (Nat × Operand)}  (hp : (parts.toList.map fun x => (x.1, ev ρ x.2)) = []) : Y Tryz.prog S ρ (.build 114 parts) ty (.agg #[Value.int .i64 0, Value.int .i64 0]) :=
  Y.build hp fun w => by simp [Instr.build, go_sem]
theorem bd177_0 {S ρ ty} {parts : Array (Nat × Operand)} {x0a : Option Addr} {x0l x0c : Nat} (hp : (parts.toList.map fun x => (x.1, ev ρ x.2)) = [(0, Value.slice x0a x0l x0c)]) : Y Tryz.prog S ρ (.build 177 parts) ty (.agg #[Value.slice x0a x0l x0c]) :=
  Y.build hp fun w => by simp [Instr.build, go_sem]
theorem cf82 : CF 82 := fun _ _ => by simp [go_sem]
theorem cf83 : CF 83 := fun _ _ => by simp [go_sem]
theorem cf84 : CF 84 := fun _ _ => by simp [go_sem]
set_option maxHeartbeats 4000000 in
theorem Decode_any (l : List UInt8) (w0 w : World) (F0 : List Nat) (L G : List Res) (hst : St w0 F0 w L G) (hl : l.length ≤ 1000000) :
    Calls Tryz.prog 59 #[.string (str l)] w (DPost l w0 F0 L G) := by
  refine W.funcD (args := [_]) func59 rfl ntmps59 rfl rfl<|W.region rfl<|Ops.ww rfl (X.allocA hst zeroValue103<|?_); clear hst; intro p2 w2 hst; refine Ops.ww rfl (X.alloc1 hst zeroValue44 rfl ?_); clear hst; intro p3 w3 hst; refine Ops.done rfl<|⟨rfl, DF.go (m := 4) (cs := [.pointer _, .pointer _]) rfl rfl rfl rfl rfl rfl rfl<|?_⟩; replace hst := hst.swap; refine W.sr rfl<|hst.y rfl (Y.moveT rfl)<|hst.y rfl (Y.lenT underlying9 rfl)<|hst.yb rfl (Y.leq rfl rfl) (fun b11 hb11 => ?_); cases b11
  · replace hb11 := dF hb11; refine Ops.xp rfl rfl (XP.call cf82 rfl ?_); refine use_call (must_F _ _) rfl ?_; rintro e w' ⟨rfl, rfl⟩; refine ⟨_, rfl, ?_⟩; exact dec_panic 3 rfl hst rfl rfl (fun w' hst => dec_fail (decR_long (by rw [str_sz] at hb11; omega)) hst)
  · replace hb11 := dT hb11; refine Ops.ww rfl (X.call cf82 rfl ?_); refine use_call (must_T _ _) rfl ?_; rintro e w' ⟨rfl, rfl⟩; refine ⟨_, rfl, ?_⟩; refine Ops.ds rfl rfl<|hst.y rfl (Y.moveT rfl)<|Ops.ww rfl (X.bytes hst underlying9 underlying172 underlying5 rfl<|?_); clear hst; intro p15 m15 w15 hst; refine Ops.ww rfl (X.call cf83 rfl ?_); refine use_call (open_any _ l _ _ _ _ _ hst (Rds.front 0 rfl (by omega) (bytes_front l m15)) hl) rfl ?_; clear hst; rintro e w4 ⟨u, b16, rfl, hb16, hst⟩; generalize hq : (opn l).getD [] = q at hst; obtain ⟨Au, cu, rfl, hcu⟩ := rowR_shape (hst.res _ (List.Mem.head _)); refine ⟨_, rfl, ?_⟩; replace hst := hst.swap.drop.toFact; have hrq : ∀ {w : World} {L' : List Res}, St w0 F0 w L' (rowR (.slice Au q.length cu) 5 1 q.length (bvs q) :: G) → Sl w (.slice Au q.length cu) q.length (bvs q) := fun h => (Rds.rowG 0 rfl).sl h; refine hst.y rfl (Y.moveU rfl)<|hst.y rfl (Y.extract rfl rfl)<|hst.y rfl (Y.extract rfl rfl)<|hst.y rfl (Y.assignS rfl)<|hst.y rfl (Y.assignB rfl)<|Ops.ds rfl rfl<|hst.y rfl (Y.moveB rfl)<|?_; cases b16
    · replace hb16 := dF hb16; refine Ops.xp rfl rfl (XP.call cf82 rfl ?_); refine use_call (must_F _ _) rfl ?_; rintro e w' ⟨rfl, rfl⟩; refine ⟨_, rfl, ?_⟩; exact dec_panic 5 rfl hst rfl rfl (fun w' hst => dec_fail (decR_sum (by rw [str_sz] at hb11; omega) (by simpa using hb16)) hst.forget)
    · replace hb16 := dT hb16; refine Ops.ww rfl (X.call cf82 rfl ?_); refine use_call (must_T _ _) rfl ?_; rintro e w' ⟨rfl, rfl⟩; refine ⟨_, rfl, ?_⟩; refine Ops.done rfl<|W.seq rfl<|?_; have hll : ¬ 4096 < l.length := by rw [str_sz] at hb11; omega
      have hp : opn l = some q := by
        rw [← hq]; cases e : opn l with
        | none => exact absurd e hb16
        | some p => rfl
      have hb2 := UInt8.toNat_lt (q.getD 2 0); have hb3 := UInt8.toNat_lt (q.getD 3 0); refine W.region rfl<|hst.y rfl (Y.moveS rfl)<|hst.y rfl (Y.lenS underlying172 rfl)<|hst.yb rfl (Y.geq rfl rfl) (fun b23 hb23 => hst.y rfl (Y.moveB rfl)<|?_); cases b23
      · replace hb23 := dF hb23; refine Ops.nn rfl<|Ops.nn rfl<|Ops.nn rfl<|Ops.nn rfl<|Ops.nn rfl<|Ops.nn rfl<|Ops.nn rfl<|Ops.nn rfl<|Ops.nn rfl<|hst.y rfl (Y.pB rfl rfl)<|hst.y rfl (Y.moveB rfl)<|Ops.nn rfl<|Ops.nn rfl<|Ops.nn rfl<|Ops.nn rfl<|hst.y rfl (Y.pB rfl rfl)<|Ops.xp rfl rfl (XP.call cf82 rfl<|?_); refine use_call (must_F _ _) rfl ?_; rintro e w' ⟨rfl, rfl⟩; refine ⟨_, rfl, ?_⟩; exact dec_panic 4 rfl hst rfl rfl (fun w' hst => dec_fail (decR_form hll hp (by unfold FormOk gb; omega)) hst.forget)
      · replace hb23 := dT hb23; refine hst.y rfl (Y.moveS rfl)<|hst.y rfl (Y.lenS underlying172 rfl)<|hst.y rfl (Y.moveS rfl)<|hst.y rfl (Y.indexAddr underlying172 sizeOf5 rfl rfl ((hrq hst).ne (by rw [bvs_length]; omega)) (by omega))<|?_; refine hst.y rfl (Y.loadSl isAgg5 rfl (Rds.rowG 0 rfl) (bvs_get (k := 3) (by omega)))<|hst.y rfl (Y.byteInt underlying3 underlying5 rfl)<|hst.y rfl (Y.mulI rfl rfl (by omega))<|hst.y rfl (Y.addI rfl rfl (by omega))<|hst.yb rfl (Y.eql rfl rfl) (fun b33 hb33 => hst.y rfl (Y.pB rfl rfl)<|hst.y rfl (Y.moveB rfl)<|?_); cases b33
        · replace hb33 := dF hb33; refine Ops.nn rfl<|Ops.nn rfl<|Ops.nn rfl<|Ops.nn rfl<|hst.y rfl (Y.pB rfl rfl)<|Ops.xp rfl rfl (XP.call cf82 rfl<|?_); refine use_call (must_F _ _) rfl ?_; rintro e w' ⟨rfl, rfl⟩; refine ⟨_, rfl, ?_⟩; exact dec_panic 4 rfl hst rfl rfl (fun w' hst => dec_fail (decR_form hll hp (by unfold FormOk gb; omega)) hst.forget)
        · replace hb33 := dT hb33; refine hst.y rfl (Y.moveS rfl)<|hst.y rfl (Y.indexAddr underlying172 sizeOf5 rfl rfl ((hrq hst).ne (by rw [bvs_length]; omega)) (by omega))<|?_; refine hst.y rfl (Y.loadSl isAgg5 rfl (Rds.rowG 0 rfl) (bvs_get (k := 2) (by omega)))<|hst.yb rfl (Y.leq rfl rfl) (fun b39 hb39 => hst.y rfl (Y.pB rfl rfl)<|?_); cases b39
          · replace hb39 := dF hb39; refine Ops.xp rfl rfl (XP.call cf82 rfl ?_); refine use_call (must_F _ _) rfl ?_; rintro e w' ⟨rfl, rfl⟩; refine ⟨_, rfl, ?_⟩; exact dec_panic 4 rfl hst rfl rfl (fun w' hst => dec_fail (decR_form hll hp (by unfold FormOk gb; omega)) hst.forget)
          · replace hb39 := dT hb39; refine Ops.ww rfl (X.call cf82 rfl ?_); refine use_call (must_T _ _) rfl ?_; rintro e w' ⟨rfl, rfl⟩; refine ⟨_, rfl, ?_⟩; refine Ops.done rfl<|W.seq rfl<|?_; have hq2 : (q.getD 2 0).toNat ≤ 3 := by omega
            have hform : FormOk q := by unfold FormOk gb; omega
            refine hst.dv [19] (T0 [0,1,2,3,4,5,6,7,8,9,10,11,12,13,14,15,16,17,18] (.op 19 1 .nil)) rfl (by kernel_rfl) rfl (by kernel_rfl) fun wd hst => ?_; refine hst.z rfl (Y.moveS rfl)<|hst.z rfl (Y.indexAddr underlying172 sizeOf5 rfl rfl ((hrq hst).ne (by rw [bvs_length]; omega)) (by omega))<|?_; refine hst.z rfl (Y.loadSl isAgg5 rfl (Rds.rowG 0 rfl) (bvs_get (k := 0) (by omega)))<|hst.z rfl (Y.byteInt underlying3 underlying5 rfl)<|hst.z rfl (Y.moveS rfl)<|hst.z rfl (Y.indexAddr underlying172 sizeOf5 rfl rfl ((hrq hst).ne (by rw [bvs_length]; omega)) (by omega))<|?_; refine hst.z rfl (Y.loadSl isAgg5 rfl (Rds.rowG 0 rfl) (bvs_get (k := 1) (by omega)))<|hst.z rfl (Y.byteInt underlying3 underlying5 rfl)<|hst.z rfl (Y.moveS rfl)<|hst.z rfl (Y.indexAddr underlying172 sizeOf5 rfl rfl ((hrq hst).ne (by rw [bvs_length]; omega)) (by omega))<|?_; refine hst.z rfl (Y.loadSl isAgg5 rfl (Rds.rowG 0 rfl) (bvs_get (k := 2) (by omega)))<|hst.z rfl (Y.and1 rfl)<|hst.z rfl (Y.bit1 hq2 rfl)<|hst.z rfl (Y.moveS rfl)<|hst.z rfl (Y.indexAddr underlying172 sizeOf5 rfl rfl ((hrq hst).ne (by rw [bvs_length]; omega)) (by omega))<|?_; refine hst.z rfl (Y.loadSl isAgg5 rfl (Rds.rowG 0 rfl) (bvs_get (k := 2) (by omega)))<|hst.z rfl (Y.and2 rfl)<|hst.z rfl (Y.bit2 hq2 rfl)<|hst.z rfl (bd103_0_1_5_6 rfl)<|Drw.z rfl rfl rfl rfl (X.storeS hst 0 sizeOf103 rfl rfl (vs := [.int .i64 ((q.getD 0 0).toNat : Int), .int .i64 ((q.getD 1 0).toNat : Int), .int .i64 0, .int .i64 0, .int .i64 0, .int .i64 0, .bool (decide ((q.getD 2 0).toNat % 2 = 1)), .bool (decide ((q.getD 2 0).toNat / 2 % 2 = 1)), .int .i64 0, .int .i64 0, .int .i64 0, .int .i64 0, .int .i64 0, .slice none 0 0]) rfl rfl rfl (lZ rfl) rfl rfl<|?_); clear hst; intro w6 hst; replace hst : St w0 F0 _ (cellsR p2 [.int .i64 ((q.getD 0 0).toNat : Int), .int .i64 ((q.getD 1 0).toNat : Int), .int .i64 0, .int .i64 0, .int .i64 0, .int .i64 0, .bool (decide ((q.getD 2 0).toNat % 2 = 1)), .bool (decide ((q.getD 2 0).toNat / 2 % 2 = 1)), .int .i64 0, .int .i64 0, .int .i64 0, .int .i64 0, .int .i64 0, .slice none 0 0] 103 :: cellsR p3 [.int .i64 0] 44 :: L) (rowR (.slice Au q.length cu) 5 1 q.length (bvs q) :: G) := hst; refine Drw.done<|W.sr rfl<|hst.y rfl (Y.moveS rfl)<|hst.y rfl (Y.sliceLo underlying172 sizeOf5 rfl rfl (m := 4) rfl (by omega))<|hst.y rfl (bd177_0 rfl)<|Ops.ww rfl (X.boxA hst rfl<|?_); clear hst; intro p64 w64 hst; refine hst.y rfl (Y.assignP rfl)<|Ops.ds rfl rfl<|hst.y rfl (Y.moveP rfl)<|?_
            first
            | refine hst.y rfl (Y.fieldAddr fa103_2 rfl) ?_
            | refine hst.y rfl (Y.fieldAddrP fa103_2 rfl) ?_
            first
            | refine hst.y rfl (Y.fieldAddr fa53_0 rfl) ?_
            | refine hst.y rfl (Y.fieldAddrP fa53_0 rfl) ?_
            first
            | refine hst.y rfl (Y.fieldAddr fa103_2 rfl) ?_
            | refine hst.y rfl (Y.fieldAddrP fa103_2 rfl) ?_
            first
            | refine hst.y rfl (Y.fieldAddr fa53_1 rfl) ?_
            | refine hst.y rfl (Y.fieldAddrP fa53_1 rfl) ?_
            first
            | refine hst.y rfl (Y.fieldAddr fa103_3 rfl) ?_
            | refine hst.y rfl (Y.fieldAddrP fa103_3 rfl) ?_
            first
            | refine hst.y rfl (Y.fieldAddr fa103_4 rfl) ?_
            | refine hst.y rfl (Y.fieldAddrP fa103_4 rfl) ?_
            first
            | refine hst.y rfl (Y.fieldAddr fa103_7 rfl) ?_
            | refine hst.y rfl (Y.fieldAddrP fa103_7 rfl) ?_
            first
            | refine hst.y rfl (Y.fieldAddr fa53_0 rfl) ?_
            | refine hst.y rfl (Y.fieldAddrP fa53_0 rfl) ?_
            first
            | refine hst.y rfl (Y.fieldAddr fa103_7 rfl) ?_
            | refine hst.y rfl (Y.fieldAddrP fa103_7 rfl) ?_
            first
            | refine hst.y rfl (Y.fieldAddr fa53_1 rfl) ?_
            | refine hst.y rfl (Y.fieldAddrP fa53_1 rfl) ?_
            first
            | refine hst.y rfl (Y.fieldAddr fa103_8 rfl) ?_
            | refine hst.y rfl (Y.fieldAddrP fa103_8 rfl) ?_
            first
            | refine hst.y rfl (Y.fieldAddr fa103_9 rfl) ?_
            | refine hst.y rfl (Y.fieldAddrP fa103_9 rfl) ?_
            first
            | refine hst.y rfl (Y.fieldAddr fa55_0 rfl) ?_
            | refine hst.y rfl (Y.fieldAddrP fa55_0 rfl) ?_
            first
            | refine hst.y rfl (Y.fieldAddr fa103_9 rfl) ?_
            | refine hst.y rfl (Y.fieldAddrP fa103_9 rfl) ?_
            first
            | refine hst.y rfl (Y.fieldAddr fa55_1 rfl) ?_
            | refine hst.y rfl (Y.fieldAddrP fa55_1 rfl) ?_
            refine Ops.ww rfl (X.lits hst underlying201 sizeOf179 zeroValue179 (by rfl) (by rfl) (by rfl) [.pointer _, .pointer _, .pointer _, .pointer _, .pointer _, .pointer _, .pointer _, .pointer _, .pointer _] (by rfl) (by rfl) ?_); clear hst; intro p81 w81 hst; have hl4 : (q.drop 4).length = q.length - 4 := List.length_drop ..; rw [← hl4] at hst; have hup := hst.up3.up3
            have hrs : Rds [] (rowR (.slice Au q.length cu) 5 1 q.length (bvs q) :: G) (.slice (resl Au cu 4 1) (q.drop 4).length (cu - 4)) (q.drop 4).length (bvs (q.drop 4)) := by
              have h := (Rds.rowG 0 rfl : Rds [] (rowR (.slice Au q.length cu) 5 1 q.length (bvs q) :: G) (.slice Au q.length cu) q.length (bvs q)).dropN (size := 1) (k := 4) (by rw [bvs_length, Nat.mul_one]) (by omega); rw [hl4]; simpa [bvs, List.map_drop] using h
            refine Ops.ww rfl (X.call cf84 rfl<|use_call (rnums_any p64 p2 [2, 3, 4, 5, 8, 9, 10, 11, 12] _ _ (q.drop 4) _ _ _ _ _ _ _ _ _ hup hrs (Rds.ofCells 0 rfl 9 9) (by simp; omega) (by omega) (by simp)) rfl<|?_); clear hst hup hrs; rintro e w8 ⟨rfl, A8, c8, hs8, hst⟩; refine ⟨_, rfl, ?_⟩; refine Ops.done rfl<|W.seq rfl<|W.seq rfl<|?_; replace hst := hst.up3.drop; rw [show ([2, 3, 4, 5, 8, 9, 10, 11, 12] : List Nat).length = 9 from rfl] at hst hs8; rw [fk9] at hst; replace hst := hst.nilRow 114 2; refine W.region rfl<|hst.y rfl (Y.moveS rfl)<|hst.y rfl (Y.indexAddr underlying172 sizeOf5 rfl rfl ((hrq hst).ne (by rw [bvs_length]; omega)) (by omega))<|?_; refine hst.y rfl (Y.loadSl isAgg5 rfl (Rds.rowG 0 rfl) (bvs_get (k := 3) (by omega)))<|hst.y rfl (Y.byteInt underlying3 underlying5 rfl)<|hst.y rfl (Y.moveI rfl)<|Ops.done rfl<|W.block rfl<|?_; refine W.loop (γ := Nat) [(2, .pointer _), (3, .pointer _), (6, .pointer _), (86, .int _ _)] (fun k => [(87, .int .i64 (k : Int))]) (fun k w => k ≤ (q.getD 3 0).toNat ∧ ∃ A c Ar cr, Rds [] (rowR (.slice Au q.length cu) 5 1 q.length (bvs q) :: G) (.slice Ar (q.drop (76 + 16 * k)).length cr) (q.drop (76 + 16 * k)).length (bvs (q.drop (76 + 16 * k))) ∧ St w0 F0 w (rowR (.slice A k c) 114 2 k (lcs (rdTab q k)) :: cellsR p64 [.slice Ar (q.drop (76 + 16 * k)).length cr] 177 :: cellsR p2 (cellsK q A k c) 103 :: cellsR p3 [.int .i64 0] 44 :: L) (rowR (.slice Au q.length cu) 5 1 q.length (bvs q) :: G)) (fun k => (q.getD 3 0).toNat - k) (0) rfl ⟨rfl, rfl, rfl, rfl, trivial⟩ ?_ ?_ ?_
            · exact ⟨rfl, trivial⟩
            · rw [List.drop_drop] at hs8 hst; exact ⟨by omega, none, 0, A8, c8, hs8, hst⟩
            · clear hst hs8; rintro k j w9 ⟨hk, A, c, Ar, cr, hs9, hst⟩; refine W.sr rfl<|hst.yb rfl (Y.lss rfl rfl) (fun b88 hb88 => Ops.done rfl<|W.seq rfl<|?_); cases b88
              · replace hb88 := dF hb88; refine W.condF rfl rfl<|W.exit rfl<|W.seq rfl<|?_; have hkn : k = (q.getD 3 0).toNat := by omega
                have et : (rdM q).tab = rdTab q k := by rw [hkn]; rfl
                have el : (rdM q).tab.length = k := by rw [et, rdTab_length]
                have e1 : cellsK q A k c = (rdM q).cells A c := by unfold cellsK M.cells; rw [el]
                rw [e1, ← et] at hst; have e2 : rowR (.slice A k c) 114 2 k (lcs (rdM q).tab) = rowR (.slice A (rdM q).tab.length c) 114 2 (rdM q).tab.length (lcs (rdM q).tab) := by rw [el]
                rw [e2] at hst; refine W.region rfl<|hst.y rfl (Y.loadA 2 isAgg103 sizeOf103 rfl rfl rfl rfl)<|Ops.ww rfl (X.call cf85 rfl<|?_); refine use_call (good_any _ _ _ _ _ _ _ _ _ _ _ _ _ (rdM q).tab _ _ _ _ _ _ _ hst (Rds.rowL 0 rfl) (by omega) (by rw [et]; exact rdTab_in _ _)) rfl ?_; clear hst; rintro e w15 ⟨b103, rfl, hb103, hst⟩; refine ⟨_, rfl, ?_⟩; cases b103
                · replace hb103 := dF hb103; refine Ops.xp rfl rfl (XP.call cf82 rfl ?_); refine use_call (must_F _ _) rfl ?_; rintro e w' ⟨rfl, rfl⟩; refine ⟨_, rfl, ?_⟩; exact dec_panic 4 rfl hst.drop.drop rfl rfl (fun w' hst => dec_fail (decR_bad hll hp hb103) hst.forget)
                · replace hb103 := dT hb103; refine Ops.ww rfl (X.call cf82 rfl ?_); refine use_call (must_T _ _) rfl ?_; rintro e w' ⟨rfl, rfl⟩; refine ⟨_, rfl, ?_⟩; refine Ops.ds rfl rfl<|hst.y rfl (Y.loadA 2 isAgg103 sizeOf103 rfl rfl rfl rfl)<|Ops.ww rfl (X.storeS hst 2 sizeOf103 rfl rfl (vs := (rdM q).cells A c) rfl rfl rfl (lZ rfl) (cs' := (rdM q).cells A c) rfl rfl<|?_); clear hst; intro w16 hst; refine Ops.ww rfl (X.storeV hst 3 (.int _ _) sizeOf44 rfl rfl rfl rfl (lZ rfl) rfl rfl ?_); clear hst; intro w162 hst; refine Ops.done rfl<|W.ret rfl<|?_; exact dec_ret rfl hst.swap.drop.up3.up3 rfl rfl (fun w' hst => dec_done (decR_ok hll hp hform hb103) hst.forget)
              · replace hb88 := dT hb88; refine W.condT rfl rfl<|W.skip rfl<|W.seq rfl<|W.block rfl<|W.sr rfl<|hst.y rfl (bd114_ rfl)<|Ops.ww rfl (X.allocA hst zeroValue114<|?_); clear hst; intro p7 w7 hst
                first
                | refine Ops.ww rfl (X.storeS hst 0 sizeOf114 rfl rfl rfl rfl rfl (lZ rfl) rfl rfl ?_)
                | refine Ops.ww rfl (X.storeS hst 1 sizeOf114 rfl rfl rfl rfl rfl (lZ rfl) rfl rfl ?_)
                | refine Ops.ww rfl (X.storeS hst 2 sizeOf114 rfl rfl rfl rfl rfl (lZ rfl) rfl rfl ?_)
                clear hst; intro w11_2 hst
                try simp only [List.set_cons_zero, List.set_cons_succ, Nat.zero_add, Nat.reduceAdd, splice, List.take, List.drop, List.append_eq, List.nil_append, List.cons_append, List.length_cons, List.length_nil] at hst
                refine Ops.ds rfl rfl<|hst.y rfl (Y.moveP rfl)<|?_
                first
                | refine hst.y rfl (Y.fieldAddr fa114_0 rfl) ?_
                | refine hst.y rfl (Y.fieldAddrP fa114_0 rfl) ?_
                first
                | refine hst.y rfl (Y.fieldAddr fa114_1 rfl) ?_
                | refine hst.y rfl (Y.fieldAddrP fa114_1 rfl) ?_
                refine Ops.ww rfl (X.lits hst underlying201 sizeOf179 zeroValue179 (by rfl) (by rfl) (by rfl) [.pointer _, .pointer _] (by rfl) (by rfl) ?_); clear hst; intro p93 w93 hst; have hup := hst.up4.up3.swap; refine Ops.ww rfl (X.call cf84 rfl<|use_call (rnums_any p64 p7 [0, 1] _ _ (q.drop (76 + 16 * k)) _ _ _ _ _ _ _ _ _ hup hs9 (Rds.ofCells 0 rfl 2 2) (by simp; omega) (by simp; omega) (by simp)) rfl<|?_); clear hst hup; rintro e w12 ⟨rfl, A12, c12, hs12, hst⟩; refine ⟨_, rfl, ?_⟩; replace hst := hst.up3.drop; rw [show ([0, 1] : List Nat).length = 2 from rfl] at hst hs12; rw [fk2] at hst; refine Ops.done rfl<|W.region rfl<|?_
                first
                | refine hst.y rfl (Y.fieldAddr fa103_10 rfl) ?_
                | refine hst.y rfl (Y.fieldAddrP fa103_10 rfl) ?_
                refine hst.y rfl (Y.load 3 isAgg41 rfl rfl rfl)<|hst.y rfl (Y.loadA 1 isAgg114 sizeOf114 rfl rfl rfl rfl)<|Ops.ww rfl (X.lit1 hst underlying41 sizeOf114 zeroValue114 (by rfl) (vs := lcs [(numAt q (9 + 2 * k), numAt q (10 + 2 * k))]) rfl (by rfl)<|?_); clear hst; intro p98 w98 hst; refine Ops.ww rfl (X.append hst 3 underlying41 infoLeap rfl rfl rfl rfl rfl (Rds.ofCells 0 rfl 1 1) rfl (by simp [lcs, Value.oneCell']) (by unfold maxLen; omega) (by omega) ?_); clear hst; intro v99 w99 hst; obtain ⟨A99, c99, rfl, -⟩ := rowR_shape (hst.res _ (List.Mem.tail _ (List.Mem.tail _ (List.Mem.tail _ (List.Mem.head _)))))
                first
                | refine hst.y rfl (Y.fieldAddr fa103_10 rfl) ?_
                | refine hst.y rfl (Y.fieldAddrP fa103_10 rfl) ?_
                refine Ops.ww rfl (X.storeV hst 4 (.slice _ _ _) sizeOf41 rfl rfl rfl rfl (lZ rfl) rfl rfl ?_); clear hst; intro w13 hst; refine Ops.done rfl<|W.region rfl<|hst.y rfl (Y.addI rfl rfl (by omega))<|hst.y rfl (Y.moveI rfl)<|Ops.done rfl<|?_; have hd2 : (q.drop (76 + 16 * k)).drop (8 * 2) = q.drop (76 + 16 * (k + 1)) := by rw [List.drop_drop]; congr 1
                rw [hd2] at hst hs12; refine ⟨k + 1, ⟨rfl, trivial⟩, ⟨rfl, rfl, rfl, rfl, trivial⟩, ⟨by omega, A99, c99, A12, c12, hs12, ?_⟩, by omega⟩; rw [rdTab_snoc, lcs_append]; exact hst.drop.swap.drop.swap
end Go.Proofs.YtaanjifekgfemaaGreat.W
end
section
namespace Go.Proofs.YtaanjifekgfemaaGreat.Cl
open Tryz
open Go.RowKit Go.Proofs.YtaanjifekgfemaaGreat.K Go.Proofs.YtaanjifekgfemaaGreat.W Go.Proofs.YtaanjifekgfemaaGreat.LN
structure Rd where
  gate : Int
  is : Bool
  reading : Int
  given : Bool
  tab : List (Int × Int)
  A : Option Addr
  cap : Nat
def rdC (r : Rd) : List Value := [.int .i64 r.gate, .bool r.is, .int .i64 r.reading, .bool r.given, .slice r.A r.tab.length r.cap]
theorem rdC_len (r : Rd) : (rdC r).length = 5 := rfl
structure Ag where
  from_ : Int
  to : Int
  ticks : Int
def agC (a : Ag) : List Value := [.int .i64 a.from_, .int .i64 a.to, .int .i64 a.ticks]
theorem agC_len (a : Ag) : (agC a).length = 3 := rfl
structure Li where
  from_ : Int
  to : Int
  text : ByteArray
def liC (a : Li) : List Value := [.int .i64 a.from_, .int .i64 a.to, .string a.text]
theorem liC_len (a : Li) : (liC a).length = 3 := rfl
abbrev Sla := Option Addr × Nat
structure Stp where
  ticks : List (Int × Int)
  reads : List Rd
  ages : List Ag
  lost : List (Int × Int)
  lies : List Li
  off : List Int
  cut : List (Int × Int)
  join : List (Int × Int)
  a0 : Sla
  a1 : Sla
  a2 : Sla
  a3 : Sla
  a4 : Sla
  a5 : Sla
  a6 : Sla
  a7 : Sla
def stpC (s : Stp) : List Value := [.slice s.a0.1 s.ticks.length s.a0.2, .slice s.a1.1 s.reads.length s.a1.2, .slice s.a2.1 s.ages.length s.a2.2, .slice s.a3.1 s.lost.length s.a3.2, .slice s.a4.1 s.lies.length s.a4.2, .slice s.a5.1 s.off.length s.a5.2, .slice s.a6.1 s.cut.length s.a6.2, .slice s.a7.1 s.join.length s.a7.2]
structure Stp.Ok (G : List Res) (s : Stp) : Prop where
  ticks : Rds [] G (.slice s.a0.1 s.ticks.length s.a0.2) s.ticks.length (flat pairC s.ticks)
  reads : Rds [] G (.slice s.a1.1 s.reads.length s.a1.2) s.reads.length (flat rdC s.reads)
  ages : Rds [] G (.slice s.a2.1 s.ages.length s.a2.2) s.ages.length (flat agC s.ages)
  lost : Rds [] G (.slice s.a3.1 s.lost.length s.a3.2) s.lost.length (flat pairC s.lost)
  lies : Rds [] G (.slice s.a4.1 s.lies.length s.a4.2) s.lies.length (flat liC s.lies)
  off : Rds [] G (.slice s.a5.1 s.off.length s.a5.2) s.off.length (ivs s.off)
  cut : Rds [] G (.slice s.a6.1 s.cut.length s.a6.2) s.cut.length (flat pairC s.cut)
  join : Rds [] G (.slice s.a7.1 s.join.length s.a7.2) s.join.length (flat pairC s.join)
  lens : s.ticks.length ≤ 1000000 ∧ s.reads.length ≤ 1000000 ∧ s.ages.length ≤ 1000000 ∧ s.lost.length ≤ 1000000 ∧ s.lies.length ≤ 1000000 ∧ s.off.length ≤ 1000000 ∧ s.cut.length ≤ 1000000 ∧ s.join.length ≤ 1000000
  tabs : ∀ r ∈ s.reads, TabFit r.tab ∧ Rds [] G (.slice r.A r.tab.length r.cap) r.tab.length (lcs r.tab)
theorem Stp.Ok.mono {G G' : List Res} {s : Stp} (h : s.Ok G) (hG : ∀ r ∈ G, r ∈ G') : s.Ok G' :=
  ⟨h.ticks.moreG hG, h.reads.moreG hG, h.ages.moreG hG, h.lost.moreG hG, h.lies.moreG hG, h.off.moreG hG, h.cut.moreG hG, h.join.moreG hG, h.lens, fun r hr => ⟨(h.tabs r hr).1, (h.tabs r hr).2.moreG hG⟩⟩
def tickOf (p : Par) (who : Int) (l : List (Int × Int)) : Int := l.foldl (fun n t => if t.1 = who then t.2 else n) p.Beat
def rs1 (who : Int) (i : Inp) (r : Rd) : Inp := if r.gate = who ∧ r.is = true then { i with ref := true, reading := r.reading } else i
def rs2 (who : Int) (i : Inp) (r : Rd) : Inp := if r.gate = who ∧ r.given = true then { i with given := true, tab := r.tab, TA := r.A, tcap := r.cap } else i
def readStep (who : Int) (i : Inp) (r : Rd) : Inp := rs2 who (rs1 who i r) r
def inp0 (n : Int) : Inp := ⟨n, [], none, 0, false, 0, false, [], none, 0⟩
def inpR (p : Par) (who : Int) (ticks : List (Int × Int)) (l : List Rd) : Inp := l.foldl (readStep who) (inp0 (tickOf p who ticks))
def ageOf (p : Par) (who : Int) (l : List Ag) (f : Nat) : Int := l.foldl (fun n a => if a.from_ = (f : Int) ∧ a.to = who then a.ticks else n) (sub p.Beat p.Delay)
def decF (f : Nat) (age : Int) (x : It) : Option (M × Int) := if (decR x.1.data.toList).2 = 0 ∧ (decR x.1.data.toList).1.from_ = (f : Int) then some ((decR x.1.data.toList).1, age) else none
def rowH (f : Nat) (age : Int) (q : List It) : List (M × Int) := q.filterMap (decF f age)
def heardP (qs : Qs) (age : Nat → Int) (k : Nat) : List (M × Int) := (List.range k).flatMap fun f => rowH f (age f) (qs.getD f [])
def ma (h : Hd) : M × Int := (h.m, h.age)
structure InpOf (p : Par) (s : Stp) (who : Int) (qs : Qs) (i : Inp) : Prop where
  ticks : i.ticks = tickOf p who s.ticks
  ref : i.ref = (inpR p who s.ticks s.reads).ref
  reading : i.reading = (inpR p who s.ticks s.reads).reading
  given : i.given = (inpR p who s.ticks s.reads).given
  tab : i.tab = (inpR p who s.ticks s.reads).tab
  heard : i.heard.map ma = heardP qs (ageOf p who s.ages) 48
theorem tickOf_snoc (p : Par) (who : Int) (l : List (Int × Int)) (k : Nat) (h : k < l.length) : tickOf p who (l.take (k + 1)) = if l[k].1 = who then l[k].2 else tickOf p who (l.take k) := by
  unfold tickOf; rw [List.take_succ_eq_append_getElem h, List.foldl_append]; rfl
theorem inpR_snoc (p : Par) (who : Int) (ts : List (Int × Int)) (l : List Rd) (k : Nat) (h : k < l.length) : inpR p who ts (l.take (k + 1)) = rs2 who (rs1 who (inpR p who ts (l.take k)) l[k]) l[k] := by
  unfold inpR; rw [List.take_succ_eq_append_getElem h, List.foldl_append]; rfl
theorem ageOf_snoc (p : Par) (who : Int) (l : List Ag) (f : Nat) (k : Nat) (h : k < l.length) : ageOf p who (l.take (k + 1)) f = if l[k].from_ = (f : Int) ∧ l[k].to = who then l[k].ticks else ageOf p who (l.take k) f := by
  unfold ageOf; rw [List.take_succ_eq_append_getElem h, List.foldl_append]; rfl
theorem rs1_heard (who : Int) (i : Inp) (r : Rd) : (rs1 who i r).heard = i.heard ∧ (rs1 who i r).HA = i.HA ∧ (rs1 who i r).hcap = i.hcap ∧ (rs1 who i r).ticks = i.ticks ∧ (rs1 who i r).tab = i.tab ∧ (rs1 who i r).TA = i.TA ∧ (rs1 who i r).tcap = i.tcap := by
  unfold rs1; split <;> exact ⟨rfl, rfl, rfl, rfl, rfl, rfl, rfl⟩
theorem rs2_heard (who : Int) (i : Inp) (r : Rd) : (rs2 who i r).heard = i.heard ∧ (rs2 who i r).HA = i.HA ∧ (rs2 who i r).hcap = i.hcap ∧ (rs2 who i r).ticks = i.ticks := by
  unfold rs2; split <;> exact ⟨rfl, rfl, rfl, rfl⟩
theorem inpR_heard (p : Par) (who : Int) (ts : List (Int × Int)) (l : List Rd) : (inpR p who ts l).heard = [] ∧ (inpR p who ts l).HA = none ∧ (inpR p who ts l).hcap = 0 ∧ (inpR p who ts l).ticks = tickOf p who ts := by
  unfold inpR
  have : ∀ (l : List Rd) (i : Inp), (l.foldl (readStep who) i).heard = i.heard ∧ (l.foldl (readStep who) i).HA = i.HA ∧ (l.foldl (readStep who) i).hcap = i.hcap ∧ (l.foldl (readStep who) i).ticks = i.ticks := by
    intro l
    induction l with
    | nil => intro i; exact ⟨rfl, rfl, rfl, rfl⟩
    | cons r l ih =>
      intro i; have h1 := ih (readStep who i r); have h2 := rs2_heard who (rs1 who i r) r; have h3 := rs1_heard who i r; refine ⟨h1.1.trans (h2.1.trans h3.1), h1.2.1.trans (h2.2.1.trans h3.2.1), h1.2.2.1.trans (h2.2.2.1.trans h3.2.2.1), h1.2.2.2.trans (h2.2.2.2.trans h3.2.2.2.1)⟩
  exact this l _
theorem inpR_tab {G : List Res} (p : Par) (who : Int) (ts : List (Int × Int)) (l : List Rd) (h : ∀ r ∈ l, TabFit r.tab ∧ Rds [] G (.slice r.A r.tab.length r.cap) r.tab.length (lcs r.tab)) (hn : Rds [] G (.slice none 0 0) 0 []) :
    TabFit (inpR p who ts l).tab ∧ Rds [] G (.slice (inpR p who ts l).TA (inpR p who ts l).tab.length (inpR p who ts l).tcap) (inpR p who ts l).tab.length (lcs (inpR p who ts l).tab) := by
  unfold inpR
  have : ∀ (l : List Rd) (i : Inp), (∀ r ∈ l, TabFit r.tab ∧ Rds [] G (.slice r.A r.tab.length r.cap) r.tab.length (lcs r.tab)) → (TabFit i.tab ∧ Rds [] G (.slice i.TA i.tab.length i.tcap) i.tab.length (lcs i.tab)) → TabFit (l.foldl (readStep who) i).tab ∧ Rds [] G (.slice (l.foldl (readStep who) i).TA (l.foldl (readStep who) i).tab.length (l.foldl (readStep who) i).tcap) (l.foldl (readStep who) i).tab.length (lcs (l.foldl (readStep who) i).tab) := by
    intro l
    induction l with
    | nil => intro i _ h; exact h
    | cons r l ih =>
      intro i hl h; refine ih _ (fun x hx => hl x (by simp [hx])) ?_; have h1 := rs1_heard who i r
      have h2 : TabFit (rs1 who i r).tab ∧ Rds [] G (.slice (rs1 who i r).TA (rs1 who i r).tab.length (rs1 who i r).tcap) (rs1 who i r).tab.length (lcs (rs1 who i r).tab) := by
        rw [h1.2.2.2.2.1, h1.2.2.2.2.2.1, h1.2.2.2.2.2.2]; exact h
      unfold readStep; unfold rs2; split
      · exact hl r (by simp)
      · exact h2
  exact this l _ h ⟨goodTab_fit goodTab_nil, hn⟩
def restOf (x : It) (b : Bool) (r : List It) : List It := match b with | true => x :: r | false => []
theorem hd_tl (r : List It) : restOf (r.headD e0) (decide (r ≠ [])) r.tail = r := by
  cases r with
  | nil => rfl
  | cons x r => rfl
theorem pop_at {Q : Qs} (hQ : Q.length = 48) {k : Nat} (hk : k < 48) (r : List It) : popV (Q.set k r) (k : Int) = r.headD e0 ∧ popB (Q.set k r) (k : Int) = decide (r ≠ []) ∧ popQ (Q.set k r) (k : Int) = Q.set k r.tail := by
  have hin : inR (k : Int) := by unfold inR; omega
  have hq : qat (Q.set k r) (k : Int) = r := by
    unfold qat
    rw [List.getD_eq_getElem?_getD, Int.toNat_natCast, List.getElem?_set_self (by omega)]; rfl
  refine ⟨?_, ?_, ?_⟩
  · unfold popV; rw [if_pos hin, hq]
  · unfold popB; rw [hq]; exact decide_eq_decide.2 ⟨fun h => h.2, fun h => ⟨hin, h⟩⟩
  · unfold popQ; rw [if_pos hin, hq, Int.toNat_natCast, List.set_set]
theorem set_getD {Q : Qs} (k : Nat) : Q.set k (Q.getD k []) = Q := by
  rcases Nat.lt_or_ge k Q.length with h | h
  · rw [List.getD_eq_getElem?_getD, List.getElem?_eq_getElem h]; simp
  · exact List.set_eq_of_length_le h
theorem heardP_succ (qs : Qs) (age : Nat → Int) (k : Nat) : heardP qs age (k + 1) = heardP qs age k ++ rowH k (age k) (qs.getD k []) := by
  unfold heardP; rw [List.range_succ, List.flatMap_append]; simp
theorem rowH_cons (f : Nat) (age : Int) (x : It) (q : List It) : rowH f age (x :: q) = (match decF f age x with | some y => [y] | none => []) ++ rowH f age q := by
  unfold rowH; rw [List.filterMap_cons]; cases decF f age x <;> rfl
theorem rowH_mem {f : Nat} {age : Int} {q : List It} {y : M × Int} (h : y ∈ rowH f age q) : y.1.from_ = (f : Int) ∧ ∃ x ∈ q, y.1 = (decR x.1.data.toList).1 ∧ (decR x.1.data.toList).2 = 0 := by
  unfold rowH at h; obtain ⟨x, hx, hy⟩ := List.mem_filterMap.1 h; unfold decF at hy; split at hy
  · rename_i hc; injection hy with hy; subst hy; exact ⟨hc.2, x, hx, rfl, hc.1⟩
  · cases hy
theorem rowH_len (f : Nat) (age : Int) (q : List It) : (rowH f age q).length ≤ q.length := List.length_filterMap_le _ _
theorem heardP_mem {qs : Qs} {age : Nat → Int} {k : Nat} {y : M × Int} (h : y ∈ heardP qs age k) : ∃ f, f < k ∧ y ∈ rowH f (age f) (qs.getD f []) := by
  unfold heardP at h; obtain ⟨f, hf, hy⟩ := List.mem_flatMap.1 h; exact ⟨f, List.mem_range.1 hf, hy⟩
theorem heardP_asc (qs : Qs) (age : Nat → Int) (k : Nat) : (heardP qs age k).Pairwise fun a b => a.1.from_ ≤ b.1.from_ := by
  induction k with
  | zero => exact .nil
  | succ k ih =>
    rw [heardP_succ, List.pairwise_append]; refine ⟨ih, ?_, fun a ha b hb => ?_⟩
    · refine List.pairwise_of_forall_mem_list fun a ha b hb => ?_; rw [(rowH_mem ha).1, (rowH_mem hb).1]; exact Int.le_refl _
    · obtain ⟨f, hf, ha⟩ := heardP_mem ha; rw [(rowH_mem ha).1, (rowH_mem hb).1]; omega
theorem heardP_len {qs : Qs} (h : ∀ q ∈ qs, q.length ≤ 64) (age : Nat → Int) (k : Nat) : (heardP qs age k).length ≤ 64 * k := by
  induction k with
  | zero => simp [heardP]
  | succ k ih =>
    rw [heardP_succ, List.length_append]; have h1 := rowH_len k (age k) (qs.getD k [])
    have h2 : (qs.getD k []).length ≤ 64 := by
      rw [List.getD_eq_getElem?_getD]
      cases hq : qs[k]? with
      | none => simp
      | some q => exact h q (List.mem_of_getElem? hq)
    omega
theorem asc_of {hs : List Hd} {qs : Qs} {age : Nat → Int} {k : Nat} (h : hs.map ma = heardP qs age k) : Asc hs := by
  have h2 := heardP_asc qs age k; rw [← h, List.pairwise_map] at h2; exact h2
def clrQ (qs : Qs) (k : Nat) : Qs := List.replicate k [] ++ qs.drop k
theorem clrQ_all {qs : Qs} (h : qs.length = 48) : clrQ qs 48 = qs0 := by
  unfold clrQ qs0; rw [List.drop_of_length_le (by omega), List.append_nil]
theorem clrQ_length {qs : Qs} {k : Nat} (h : qs.length = 48) (hk : k ≤ 48) : (clrQ qs k).length = 48 := by
  unfold clrQ; rw [List.length_append, List.length_replicate, List.length_drop]; omega
theorem clrQ_at {qs : Qs} {k : Nat} (h : k < qs.length) : (clrQ qs k).getD k [] = qs.getD k [] := by
  unfold clrQ; rw [List.getD_eq_getElem?_getD, List.getD_eq_getElem?_getD, List.getElem?_append_right (by simp)]; simp
theorem clrQ_succ {qs : Qs} {k : Nat} (h : k < qs.length) : (clrQ qs k).set k [] = clrQ qs (k + 1) := by
  unfold clrQ; rw [List.set_append_right _ _ (by simp)]; simp only [List.length_replicate, Nat.sub_self]; rw [List.drop_eq_getElem_cons h, List.set_cons_zero, List.replicate_succ', List.append_assoc]; rfl
theorem QR_small {b : Nat} {N : Int} {qs : Qs} {w : World} (h : (QR b N qs).holds w) : ∀ q ∈ qs, q.length ≤ 64 := by
  obtain ⟨rows, h1, rfl, _⟩ := h; intro q hq; obtain ⟨r, hr, rfl⟩ := List.mem_map.1 hq; have hw := h1.wf r hr; have := hw.c; rw [Rw.items_length]; omega
theorem inpR_base (p : Par) (who : Int) (ts : List (Int × Int)) (l : List Rd) : { inpR p who ts l with heard := [], HA := none, hcap := 0 } = inpR p who ts l := by
  have h := inpR_heard p who ts l; rcases hh : inpR p who ts l with ⟨a, b, c, d, e, f, g, i, j, k⟩
  rw [hh] at h; simp only at h; simp [h.1, h.2.1, h.2.2.1]
theorem tabOk_fit {l : List (Int × Int)} (h : TabOk l) : TabFit l := by
  refine ⟨by have := h.1; omega, fun x hx => ?_⟩; obtain ⟨k, hk, rfl⟩ := List.getElem_of_mem hx; have h2 := h.2 k hk; have e : lp l k = l[k] := by simp [lp, hk]
  unfold okAt at h2; rw [e] at h2; unfold In64; omega
theorem dec_ok {l : List UInt8} (h : (decR l).2 = 0) : (decR l).1.Ok := by
  unfold decR at h ⊢; split
  · rename_i hc; rw [if_pos hc] at h; cases h
  · rename_i hc; rw [if_neg hc] at h
    cases ho : opn l with
    | none => rw [ho] at h; cases h
    | some q =>
      rw [ho] at h; dsimp only at h ⊢; split
      · rename_i hf; rw [if_pos hf] at h; split
        · rename_i hm; exact hm
        · rename_i hm; rw [if_neg hm] at h; cases h
      · rename_i hf; rw [if_neg hf] at h; cases h
theorem dec_tab {l : List UInt8} (h : (decR l).2 = 0) : TabFit (decR l).1.tab := tabOk_fit (dec_ok h).2
theorem size_hd {r : List It} (h : ∀ y ∈ r, y.1.size ≤ 4096) : ∀ y ∈ r.headD e0 :: r.tail, y.1.size ≤ 4096 := by
  intro y hy
  cases r with
  | nil =>
    simp only [List.headD_nil, List.tail_nil, List.mem_singleton] at hy; subst hy; exact Nat.zero_le _
  | cons x r => exact h y hy
theorem size_at {qs : Qs} (h : ∀ q ∈ qs, ∀ x ∈ q, x.1.size ≤ 4096) (k : Nat) : ∀ y ∈ qs.getD k [], y.1.size ≤ 4096 := by
  rw [List.getD_eq_getElem?_getD]
  cases hq : qs[k]? with
  | none => intro y hy; cases hy
  | some q => exact h q (List.mem_of_getElem? hq)
theorem toList_len (a : ByteArray) : a.data.toList.length = a.size := Array.length_toList
section
variable {w0 w : World} {F0 : List Nat} {L G : List Res}
theorem Pop_at (b : Nat) (Q : Qs) (hQ : Q.length = 48) (k : Nat) (hk : k < 48) (r : List It) (w0 w : World) (F0 : List Nat) (L G : List Res) (hst : St w0 F0 w (QR b 0 (Q.set k r) :: L) G) :
    Calls Tryz.prog 58 #[.pointer (some ⟨b, 0, none⟩), .int .i64 (k : Int)] w fun e w' => ∃ c, e = .returned (.tuple #[.agg #[.string (r.headD e0).1, .int .i64 (r.headD e0).2], .bool c]) ∧ c = decide (r ≠ []) ∧ St w0 F0 w' (QR b 0 (Q.set k r.tail) :: L) G := by
  obtain ⟨h1, h2, h3⟩ := pop_at hQ hk r; refine (Pop_any b 0 (Q.set k r) (k : Int) _ _ _ _ _ hst (by decide)).mono ?_; rintro e w' ⟨c, he, hc, hst⟩; rw [h1] at he; rw [h2] at hc; rw [h3] at hst; exact ⟨c, he, hc, hst⟩
end
end Go.Proofs.YtaanjifekgfemaaGreat.Cl
end
section
namespace Go.Proofs.YtaanjifekgfemaaGreat.Cl
open Tryz
open Go.RowKit Go.Proofs.YtaanjifekgfemaaGreat.K Go.Proofs.YtaanjifekgfemaaGreat.W Go.Proofs.YtaanjifekgfemaaGreat.LN
attribute [local irreducible] bound clip adds sub neg mag mulp mul maxs
theorem bd99_0 {S ρ ty} {parts : Array (Nat × Operand)} {x0 : Int} (hp : (parts.toList.map fun x => (x.1, ev ρ x.2)) = [(0, Value.int .i64 x0)]) : Y Tryz.prog S ρ (.build 99 parts) ty (.agg #[Value.int .i64 x0, Value.slice none 0 0, Value.bool false, Value.int .i64 0, Value.bool false, Value.slice none 0 0]) :=
  Y.build hp fun w => by simp [Instr.build, go_sem]
theorem bd138_0_1 {S ρ ty} {parts : Array (Nat × Operand)} {x0_0 : Int} {x0_1 : Int} {x0_2_0 : Int} {x0_2_1 : Int} {x0_3 : Int} {x0_4 : Int} {x0_5 : Bool} {x0_6 : Bool} {x0_7_0 : Int} {x0_7_1 : Int} {x0_8 : Int} {x0_9_0 : Int} {x0_9_1 : Int} {x0_10a : Option Addr} {x0_10l x0_10c : Nat} {x1 : Int} (hp : (parts.toList.map fun x => (x.1, ev ρ x.2)) = [(0, .agg #[Value.int .i64 x0_0, Value.int .i64 x0_1, Value.int .i64 x0_2_0, Value.int .i64 x0_2_1, Value.int .i64 x0_3, Value.int .i64 x0_4, Value.bool x0_5, Value.bool x0_6, Value.int .i64 x0_7_0, Value.int .i64 x0_7_1, Value.int .i64 x0_8, Value.int .i64 x0_9_0, Value.int .i64 x0_9_1, Value.slice x0_10a x0_10l x0_10c]), (1, Value.int .i64 x1)]) : Y Tryz.prog S ρ (.build 138 parts) ty (.agg #[Value.int .i64 x0_0, Value.int .i64 x0_1, Value.int .i64 x0_2_0, Value.int .i64 x0_2_1, Value.int .i64 x0_3, Value.int .i64 x0_4, Value.bool x0_5, Value.bool x0_6, Value.int .i64 x0_7_0, Value.int .i64 x0_7_1, Value.int .i64 x0_8, Value.int .i64 x0_9_0, Value.int .i64 x0_9_1, Value.slice x0_10a x0_10l x0_10c, Value.int .i64 x1]) :=
  Y.build hp fun w => by simp [Instr.build, go_sem]
theorem fa40_0 : FA 40 0 0 := fun _ _ => by simp [Instr.fieldAt, Instr.sureAddr, go_sem]
theorem fa40_1 : FA 40 1 1 := fun _ _ => by simp [Instr.fieldAt, Instr.sureAddr, go_sem]
theorem fa40_2 : FA 40 2 2 := fun _ _ => by simp [Instr.fieldAt, Instr.sureAddr, go_sem]
theorem fa43_0 : FA 43 0 0 := fun _ _ => by simp [Instr.fieldAt, Instr.sureAddr, go_sem]
theorem fa43_1 : FA 43 1 1 := fun _ _ => by simp [Instr.fieldAt, Instr.sureAddr, go_sem]
theorem fa43_2 : FA 43 2 2 := fun _ _ => by simp [Instr.fieldAt, Instr.sureAddr, go_sem]
theorem fa43_3 : FA 43 3 3 := fun _ _ => by simp [Instr.fieldAt, Instr.sureAddr, go_sem]
theorem fa43_4 : FA 43 4 4 := fun _ _ => by simp [Instr.fieldAt, Instr.sureAddr, go_sem]
theorem fa119_0 : FA 119 0 0 := fun _ _ => by simp [Instr.fieldAt, Instr.sureAddr, go_sem]
theorem fa119_1 : FA 119 1 1 := fun _ _ => by simp [Instr.fieldAt, Instr.sureAddr, go_sem]
theorem fa121_0 : FA 121 0 0 := fun _ _ => by simp [Instr.fieldAt, Instr.sureAddr, go_sem]
theorem fa121_1 : FA 121 1 2 := fun _ _ => by simp [Instr.fieldAt, Instr.sureAddr, go_sem]
theorem fa132_0 : FA 132 0 0 := fun _ _ => by simp [Instr.fieldAt, Instr.sureAddr, go_sem]
theorem cf58 : CF 58 := fun _ _ => by simp [go_sem]
theorem cf59 : CF 59 := fun _ _ => by simp [go_sem]
set_option maxHeartbeats 4000000 in
theorem input_any (wb : Nat) (p : Par) (time : Int) (ub : Nat) (us : List Un) (uc : Nat) (LA : Option Addr) (nl lc : Nat) (stp : Stp) (ui : Nat) (hlt : ui < us.length) (qs : Qs) (hqs : ∀ q ∈ qs, ∀ x ∈ q, x.1.size ≤ 4096) (w0 w : World) (F0 : List Nat) (L G : List Res) (hst : St w0 F0 w (cellsR wb (wC p (time) (.slice (some ⟨ub, 0, none⟩) us.length uc) (.slice LA nl lc)) 86 :: QR us[ui].lb 0 (qs) :: L) G) (hru : Rds L G (.slice (some ⟨ub, 0, none⟩) us.length uc) us.length (flat unC us)) (hok : stp.Ok G) :
    Calls Tryz.prog 31 #[.pointer (some ⟨wb, 0, none⟩), .pointer (some ⟨ub, ui * 4, none⟩), .agg (stpC stp).toArray] w fun e w' => ∃ (i : Inp) (G' : List Res), e = .returned (.agg (inpC i).toArray) ∧ InpOf p stp us[ui].who qs i ∧ (∀ r ∈ G, r ∈ G') ∧ Rds [] G' (.slice i.HA i.heard.length i.hcap) i.heard.length (flat hdC i.heard) ∧ HdFit G' i.heard ∧ (i.TA = (inpR p us[ui].who stp.ticks stp.reads).TA ∧ i.tcap = (inpR p us[ui].who stp.ticks stp.reads).tcap) ∧ i.heard.length ≤ 1000000 ∧ St w0 F0 w' (cellsR wb (wC p (time) (.slice (some ⟨ub, 0, none⟩) us.length uc) (.slice LA nl lc)) 86 :: QR us[ui].lb 0 (qs0) :: L) G' := by
  have hq48 := QR_len (hst.res _ (.tail _ (.head _))); have hq64 := QR_small (hst.res _ (.tail _ (.head _))); obtain ⟨hl0, hl1, hl2, hl3, hl4, hl5, hl6, hl7⟩ := hok.lens; refine W.func func31 rfl ntmps31 rfl<|W.sr rfl<|Ops.ww rfl (X.boxA hst rfl fun p5 w5 hst => Ops.ww rfl (X.allocA hst zeroValue99 fun p6 w6 hst => Ops.ds rfl rfl<|hst.y rfl (Y.moveP rfl)<|hst.y rfl (Y.nilCheck rfl)<|hst.y rfl (Y.fieldAddr fa86_0 rfl)<|hst.y rfl (Y.fieldAddr fa23_3 rfl)<|hst.y rfl (Y.load 2 isAgg3 rfl rfl rfl)<|hst.y rfl (bd99_0 rfl)<|Ops.ww rfl (X.allocA hst zeroValue99 fun p7 w7 hst => Ops.ww rfl (X.storeS hst 0 sizeOf99 rfl rfl rfl rfl rfl (lZ rfl) rfl rfl fun w1_7 hst => Ops.done rfl<|W.seq rfl<|W.sr rfl<|hst.y rfl (Y.fieldAddr fa40_0 rfl)<|hst.y rfl (Y.load 2 isAgg36 rfl rfl rfl)<|hst.y rfl (Y.lenS underlying36 rfl)<|hst.y rfl (Y.moveI rfl)<|Ops.done rfl<|W.block rfl<|?_)))); refine W.loop (γ := Nat) [(0, .pointer _), (1, .pointer _), (5, .pointer _), (6, .pointer _), (7, .pointer _), (27, .slice _ _ _), (28, .int _ _)] (fun k0 => [(29, .int .i64 (k0 : Int))]) (fun k0 w => k0 ≤ stp.ticks.length ∧ St w0 F0 w (cellsR p7 (inpC (inp0 (tickOf p us[ui].who (stp.ticks.take k0)))) 99 :: cellsR p6 (inpC (inp0 0)) 99 :: cellsR p5 (stpC stp) 40 :: cellsR wb (wC p (time) (.slice (some ⟨ub, 0, none⟩) us.length uc) (.slice LA nl lc)) 86 :: QR us[ui].lb 0 (qs) :: L) G) (fun k0 => stp.ticks.length - k0) (0) rfl ⟨rfl, rfl, rfl, rfl, rfl, rfl, rfl, trivial⟩ ?_ ?_ ?_
  · exact ⟨rfl, trivial⟩
  · exact ⟨by omega, hst⟩
  · clear hst; rintro k0 j w3 ⟨hk, hst⟩; refine W.sr rfl<|hst.yb rfl (Y.lss rfl rfl) (fun b30 hb30 => Ops.done rfl<|W.seq rfl<|?_); cases b30
    · replace hb30 := dF hb30; refine W.condF rfl rfl<|W.exit rfl<|W.seq rfl<|W.seq rfl<|?_; obtain rfl : k0 = stp.ticks.length := by omega
      rw [List.take_length] at hst; refine W.region rfl<|hst.y rfl (Y.fieldAddr fa40_1 rfl)<|hst.y rfl (Y.load 2 isAgg37 rfl rfl rfl)<|hst.y rfl (Y.lenS underlying37 rfl)<|hst.y rfl (Y.moveI rfl)<|Ops.done rfl<|W.block rfl<|?_; refine W.loop (γ := Nat) [(0, .pointer _), (1, .pointer _), (5, .pointer _), (6, .pointer _), (7, .pointer _), (45, .slice _ _ _), (46, .int _ _)] (fun k1 => [(47, .int .i64 (k1 : Int))]) (fun k1 w => k1 ≤ stp.reads.length ∧ St w0 F0 w (cellsR p7 (inpC (inpR p us[ui].who stp.ticks (stp.reads.take k1))) 99 :: cellsR p6 (inpC (inp0 0)) 99 :: cellsR p5 (stpC stp) 40 :: cellsR wb (wC p (time) (.slice (some ⟨ub, 0, none⟩) us.length uc) (.slice LA nl lc)) 86 :: QR us[ui].lb 0 (qs) :: L) G) (fun k1 => stp.reads.length - k1) (0) rfl ⟨rfl, rfl, rfl, rfl, rfl, rfl, rfl, trivial⟩ ?_ ?_ ?_
      · exact ⟨rfl, trivial⟩
      · exact ⟨by omega, hst⟩
      · clear hst; rintro k1 j w9 ⟨hk, hst⟩; refine W.sr rfl<|hst.yb rfl (Y.lss rfl rfl) (fun b48 hb48 => Ops.done rfl<|W.seq rfl<|?_); cases b48
        · replace hb48 := dF hb48; refine W.condF rfl rfl<|W.exit rfl<|W.seq rfl<|W.seq rfl<|?_; obtain rfl : k1 = stp.reads.length := by omega
          rw [List.take_length] at hst; refine W.region rfl ?_; replace hst := hst.nilRow 138 15; refine hst.y rfl (Y.moveI rfl)<|Ops.done rfl<|W.block rfl<|?_; refine W.loop (γ := Nat × List Hd × (Option Addr × Nat) × List Res) [(0, .pointer _), (1, .pointer _), (5, .pointer _), (6, .pointer _), (7, .pointer _)] (fun x => [(82, .int .i64 (x.1 : Int))]) (fun x w => (x.1 ≤ 48 ∧ x.2.1.map ma = heardP qs (ageOf p us[ui].who stp.ages) x.1 ∧ (∀ r ∈ G, r ∈ x.2.2.2) ∧ HdFit x.2.2.2 x.2.1) ∧ St w0 F0 w (rowR (.slice x.2.2.1.1 (x.2.1).length x.2.2.1.2) 138 15 (x.2.1).length (flat hdC (x.2.1)) :: cellsR p7 (inpC ({ inpR p us[ui].who stp.ticks stp.reads with heard := x.2.1, HA := x.2.2.1.1, hcap := x.2.2.1.2 })) 99 :: cellsR p6 (inpC (inp0 0)) 99 :: cellsR p5 (stpC stp) 40 :: cellsR wb (wC p (time) (.slice (some ⟨ub, 0, none⟩) us.length uc) (.slice LA nl lc)) 86 :: QR us[ui].lb 0 (clrQ qs x.1) :: L) x.2.2.2) (fun x => 48 - x.1) ((0, [], (none, 0), G)) rfl ⟨rfl, rfl, rfl, rfl, rfl, trivial⟩ ?_ ?_ ?_
          · exact ⟨rfl, trivial⟩
          · exact ⟨⟨Nat.zero_le 48, rfl, fun r hr => hr, fun h hh => (by cases hh)⟩, by dsimp only; rw [inpR_base]; exact hst⟩
          · clear hst; rintro ⟨k, hs, ⟨HA, hc⟩, G1⟩ j w17 ⟨⟨hk, hma, hG1, hf1⟩, hst⟩; dsimp only at hk hma hG1 hf1; refine W.sr rfl<|hst.yb rfl (Y.lss rfl rfl) (fun b83 hb83 => Ops.done rfl<|W.seq rfl<|?_); cases b83
            · replace hb83 := dF hb83; refine W.condF rfl rfl<|W.exit rfl<|W.seq rfl<|?_; obtain rfl : k = 48 := by omega
              rw [clrQ_all hq48] at hst; refine W.region rfl<|hst.y rfl (Y.loadA 1 isAgg99 sizeOf99 rfl rfl rfl rfl)<|Ops.ww rfl (X.storeS hst 2 sizeOf99 rfl rfl rfl rfl rfl (lZ rfl) rfl rfl fun w35_1 hst => Ops.done rfl<|W.ret rfl<|⟨_, Rslt.cell results31 rfl (res_at isAgg99 sizeOf99 2 hst rfl rfl), ?_⟩); have hst2 : St w0 F0 _ (rowR (.slice HA (hs).length hc) 138 15 (hs).length (flat hdC (hs)) :: cellsR wb (wC p (time) (.slice (some ⟨ub, 0, none⟩) us.length uc) (.slice LA nl lc)) 86 :: QR us[ui].lb 0 (qs0) :: L) G1 := (hst.sub (.cons_cons _ (.cons _ (.cons _ (.cons _ (.cons_cons _ (.cons_cons _ (.refl _))))))))
              have hhl : hs.length ≤ 1000000 := by
                have h1 := congrArg List.length hma; rw [List.length_map] at h1; have h2 := heardP_len hq64 (ageOf p us[ui].who stp.ages) 48; omega
              exact ⟨{ inpR p us[ui].who stp.ticks stp.reads with heard := hs, HA := HA, hcap := hc }, _, rfl, ⟨(inpR_heard p _ _ _).2.2.2, rfl, rfl, rfl, rfl, hma⟩, fun r hr => .tail _ (hG1 r hr), Rds.rowG 0 rfl, fun h hh => ⟨(hf1 h hh).1, (hf1 h hh).2.consG _⟩, ⟨rfl, rfl⟩, hhl, hst2.toFact⟩
            · replace hb83 := dT hb83; refine W.condT rfl rfl<|W.skip rfl<|W.seq rfl<|W.block rfl<|W.seq rfl<|?_; have hk48 : k < 48 := by omega
              have hru1 := hru.moreG hG1; have hok1 := hok.mono hG1; have hQ : (clrQ qs k).length = 48 := clrQ_length hq48 (by omega); refine W.region rfl<|hst.y rfl (Y.moveI rfl)<|hst.y rfl (Y.assignI rfl)<|Ops.done rfl<|W.seq rfl<|W.drawn rfl (by kernel_rfl) (Ctx _ _ (_) (_)) [] (.op 0 0 (.op 1 0 (.op 2 0 (.op 3 0 (.op 4 0 (.op 5 0 (.op 6 0 (.op 7 0 (.op 8 0 (.op 9 0 (.op 10 1 (.op 11 0 .nil)))))))))))) rfl (by kernel_rfl) hst.drew.ctx<|?_; replace hst := hst.drew; generalize World.drew _ = wd at hst ⊢; refine hst.z rfl (Y.moveP rfl)<|hst.z rfl (Y.nilCheck rfl)<|hst.z rfl (Y.fieldAddr fa86_0 rfl)<|hst.z rfl (Y.fieldAddr fa23_3 rfl)<|hst.z rfl (Y.load 4 isAgg3 rfl rfl rfl)<|hst.z rfl (Y.moveP rfl)<|hst.z rfl (Y.nilCheck rfl)<|hst.z rfl (Y.fieldAddr fa86_0 rfl)<|hst.z rfl (Y.fieldAddr fa23_5 rfl)<|hst.z rfl (Y.load 4 isAgg3 rfl rfl rfl)<|Drw.ww rfl (X.ret cf53 (sub_any _ _ _ _ _ _ _ hst ) rfl fun w95 hst => ⟨hst.ctx, hst.z rfl (Y.assignI rfl)<|Drw.done<|W.seq rfl<|W.sr rfl<|hst.y rfl (Y.fieldAddr fa40_2 rfl)<|hst.y rfl (Y.load 3 isAgg38 rfl rfl rfl)<|hst.y rfl (Y.lenS underlying38 rfl)<|hst.y rfl (Y.moveI rfl)<|Ops.done rfl<|W.block rfl<|?_⟩); refine W.loop (γ := Nat) [(0, .pointer _), (1, .pointer _), (5, .pointer _), (6, .pointer _), (7, .pointer _), (12, .int _ _), (82, .int _ _), (97, .slice _ _ _), (98, .int _ _)] (fun k2 => [(99, .int .i64 (k2 : Int)), (13, .int .i64 (ageOf p us[ui].who (stp.ages.take k2) k))]) (fun k2 w => k2 ≤ stp.ages.length ∧ St w0 F0 w (rowR (.slice HA (hs).length hc) 138 15 (hs).length (flat hdC (hs)) :: cellsR p7 (inpC ({ inpR p us[ui].who stp.ticks stp.reads with heard := hs, HA := HA, hcap := hc })) 99 :: cellsR p6 (inpC (inp0 0)) 99 :: cellsR p5 (stpC stp) 40 :: cellsR wb (wC p (time) (.slice (some ⟨ub, 0, none⟩) us.length uc) (.slice LA nl lc)) 86 :: QR us[ui].lb 0 ((clrQ qs k)) :: L) G1) (fun k2 => stp.ages.length - k2) (0) rfl ⟨rfl, rfl, rfl, rfl, rfl, rfl, rfl, rfl, rfl, trivial⟩ ?_ ?_ ?_
              · exact ⟨rfl, rfl, trivial⟩
              · exact ⟨by omega, hst⟩
              · clear hst; rintro k2 j w21 ⟨hk2', hst⟩; refine W.sr rfl<|hst.yb rfl (Y.lss rfl rfl) (fun b100 hb100 => Ops.done rfl<|W.seq rfl<|?_); cases b100
                · replace hb100 := dF hb100; refine W.condF rfl rfl<|W.exit rfl<|W.seq rfl<|?_; obtain rfl : k2 = stp.ages.length := by omega
                  have hset := set_getD (Q := (clrQ qs k)) k; rw [clrQ_at (by omega)] at hset; rw [← hset] at hst; refine W.region rfl<|hst.y rfl (Y.moveP rfl)<|hst.y rfl (Y.nilCheck rfl)<|?_
                  first
                  | refine hst.y rfl (Y.fieldAddr fa96_3 rfl) ?_
                  | refine hst.y rfl (Y.fieldAddrP fa96_3 rfl) ?_
                  refine hst.y rfl (Y.loadCell isAgg94 rfl ((((((hru1.cons _).cons _).cons _).cons _).cons _).cons _) ((flat_get unC_len us ui 3 hlt (by decide)).trans rfl)) ?_; refine hst.y rfl (Y.moveI rfl)<|Ops.ww rfl (X.call cf58 rfl<|?_); refine use_call (Pop_at us[ui].lb (clrQ qs k) hQ k hk48 (qs.getD k []) _ _ _ _ _ hst.up_5) rfl ?_; clear hst; rintro e w121 ⟨b121, rfl, hb121, hst⟩; replace hst := hst.dn5; refine ⟨_, rfl, ?_⟩; refine hst.y rfl (Y.moveU rfl)<|hst.y rfl (Y.extract rfl rfl)<|hst.y rfl (Y.extract rfl rfl)<|Ops.ww rfl (X.allocA hst zeroValue132 fun p16 w16 hst => Ops.ww rfl (X.storeS hst 0 sizeOf132 rfl rfl rfl rfl rfl (lZ rfl) rfl rfl fun w26_10 hst => hst.y rfl (Y.assignB rfl)<|Ops.done rfl<|W.block rfl<|?_)); refine W.loop (γ := Nat × (It × Bool × List It) × List Hd × (Option Addr × Nat) × List Res) [(0, .pointer _), (1, .pointer _), (5, .pointer _), (6, .pointer _), (7, .pointer _), (12, .int _ _), (13, .int _ _), (82, .int _ _)] (fun x => [(16, .pointer (some ⟨x.1, 0, none⟩)), (17, .bool x.2.1.2.1)]) (fun x w => ((x.2.2.1).map ma ++ rowH k ((ageOf p us[ui].who stp.ages) k) (restOf x.2.1.1 x.2.1.2.1 x.2.1.2.2) = heardP qs (ageOf p us[ui].who stp.ages) (k + 1) ∧ (x.2.1.2.1 = false → x.2.1.2.2 = []) ∧ (∀ y ∈ x.2.1.1 :: x.2.1.2.2, y.1.size ≤ 4096) ∧ (∀ r ∈ G1, r ∈ x.2.2.2.2) ∧ HdFit x.2.2.2.2 (x.2.2.1)) ∧ St w0 F0 w (cellsR x.1 [.string x.2.1.1.1, .int .i64 x.2.1.1.2] 132 :: rowR (.slice x.2.2.2.1.1 (x.2.2.1).length x.2.2.2.1.2) 138 15 (x.2.2.1).length (flat hdC (x.2.2.1)) :: cellsR p7 (inpC ({ inpR p us[ui].who stp.ticks stp.reads with heard := x.2.2.1, HA := x.2.2.2.1.1, hcap := x.2.2.2.1.2 })) 99 :: cellsR p6 (inpC (inp0 0)) 99 :: cellsR p5 (stpC stp) 40 :: cellsR wb (wC p (time) (.slice (some ⟨ub, 0, none⟩) us.length uc) (.slice LA nl lc)) 86 :: QR us[ui].lb 0 ((clrQ qs k).set k (x.2.1.2.2)) :: L) x.2.2.2.2) (fun x => x.2.1.2.2.length + (match x.2.1.2.1 with | true => 1 | false => 0)) ((p16, ((qs.getD k []).headD e0, b121, (qs.getD k []).tail), hs, (HA, hc), G1)) rfl ⟨rfl, rfl, rfl, rfl, rfl, rfl, rfl, rfl, trivial⟩ ?_ ?_ ?_
                  · exact ⟨rfl, rfl, trivial⟩
                  · have htl := hd_tl (qs.getD k []); rw [← hb121] at htl; refine ⟨⟨?_, ?_, size_hd (size_at hqs k), fun r hr => hr, hf1⟩, hst⟩
                    · dsimp only; rw [htl, hma, heardP_succ]
                    · intro hb; have hb' : b121 = false := hb; rw [hb'] at hb121; have h0 := of_decide_eq_false hb121.symm; have h1 : (qs.getD k []) = [] := Decidable.not_not.1 h0; show (qs.getD k []).tail = []; rw [h1]; rfl
                  · clear hst; rintro ⟨pb, ⟨x, b17, r⟩, hs, ⟨HA2, hc2⟩, G2⟩ j w27 ⟨⟨hpu, hrf, hsz, hG2, hf2⟩, hst⟩; dsimp only at hpu hrf hsz hG2 hf2; have hb17 : b17 = decide (b17 = true) := by (cases b17 <;> rfl)
                    refine W.seq rfl<|W.sr rfl<|hst.y rfl (Y.moveB rfl)<|Ops.done rfl<|?_; cases b17
                    · replace hb17 := dF hb17; refine W.condF rfl rfl<|W.exit rfl<|W.region rfl<|hst.y rfl (Y.addI rfl rfl (by omega))<|hst.y rfl (Y.moveI rfl)<|Ops.done rfl<|?_; have hr0 : r = [] := hrf rfl; subst hr0; have hsc := clrQ_succ (qs := qs) (k := k) (by omega); have hst2 := (hst.dr 1); rw [hsc] at hst2; exact ⟨(k + 1, hs, (HA2, hc2), G2), ⟨rfl, trivial⟩, ⟨rfl, rfl, rfl, rfl, rfl, trivial⟩, ⟨⟨by omega, by have h9 : hs.map ma ++ [] = heardP qs (ageOf p us[ui].who stp.ages) (k + 1) := hpu; rwa [List.append_nil] at h9, fun r hr => hG2 r (hG1 r hr), hf2⟩, hst2⟩, by dsimp only; omega⟩
                    · replace hb17 := dT hb17; refine W.condT rfl rfl<|W.skip rfl<|W.seq rfl<|W.block rfl<|W.seq rfl<|?_; have hpu2 := hpu; refine W.region rfl<|hst.y rfl (Y.fieldAddr fa132_0 rfl)<|hst.y rfl (Y.load 0 isAgg9 rfl rfl rfl)<|Ops.ww rfl (X.call cf59 rfl<|?_); refine use_call (Decode_any x.1.data.toList _ _ _ _ _ hst (by rw [toList_len]; have := hsz x (.head _); omega)) rfl ?_; clear hst; rintro e w137 ⟨A137, c137, rfl, hst⟩; replace hst := hst.toFact; refine ⟨_, rfl, ?_⟩; refine hst.y rfl (Y.moveU rfl)<|hst.y rfl (Y.extract rfl rfl)<|hst.y rfl (Y.extract rfl rfl)<|Ops.ww rfl (X.allocA hst zeroValue103 fun p18 w18 hst => Ops.ww rfl (X.storeS hst 0 sizeOf103 rfl rfl rfl rfl rfl (lZ rfl) rfl rfl fun w29_7 hst => hst.y rfl (Y.assignI rfl)<|Ops.done rfl<|W.seq rfl<|?_)); refine W.cut [(0, .pointer _), (1, .pointer _), (5, .pointer _), (6, .pointer _), (7, .pointer _), (12, .int _ _), (13, .int _ _), (16, .pointer _), (18, .pointer _), (82, .int _ _)] (fun x : Bool => [(147, .bool x)]) (fun y w => y = decide ((decR x.1.data.toList).2 = 0 ∧ (decR x.1.data.toList).1.from_ = (k : Int)) ∧ St w0 F0 w (cellsR p18 (msgC (decR x.1.data.toList).1 A137 c137) 103 :: cellsR pb [.string x.1, .int .i64 x.2] 132 :: rowR (.slice HA2 (hs).length hc2) 138 15 (hs).length (flat hdC (hs)) :: cellsR p7 (inpC ({ inpR p us[ui].who stp.ticks stp.reads with heard := hs, HA := HA2, hcap := hc2 })) 99 :: cellsR p6 (inpC (inp0 0)) 99 :: cellsR p5 (stpC stp) 40 :: cellsR wb (wC p (time) (.slice (some ⟨ub, 0, none⟩) us.length uc) (.slice LA nl lc)) 86 :: QR us[ui].lb 0 ((clrQ qs k).set k r) :: L) (rowR (.slice A137 (decR x.1.data.toList).1.tab.length c137) 114 2 (decR x.1.data.toList).1.tab.length (lcs (decR x.1.data.toList).1.tab) :: G2)) ⟨rfl, rfl, rfl, rfl, rfl, rfl, rfl, rfl, rfl, rfl, trivial⟩ ?_ ?_
                      rotate_left
                      · clear hst; rintro b147 j w30 ⟨hb147, hst⟩; cases b147
                        · replace hb147 := dF hb147; refine W.condF rfl rfl<|W.skip rfl<|W.seq rfl<|W.sr rfl<|hst.y rfl (Y.loadA 1 isAgg132 sizeOf132 rfl rfl rfl rfl)<|Ops.done rfl<|W.region rfl<|Ops.ww rfl (X.allocA hst zeroValue132 fun p33 w33 hst => Ops.ww rfl (X.storeS hst 0 sizeOf132 rfl rfl rfl rfl rfl (lZ rfl) rfl rfl fun w33_1 hst => Ops.done rfl<|?_)); have hru2 := (hru.moreG hG1).moreG (fun r hr => List.mem_cons_of_mem _ (hG2 r hr) : ∀ r ∈ G1, r ∈ (rowR (.slice A137 (decR x.1.data.toList).1.tab.length c137) 114 2 (decR x.1.data.toList).1.tab.length (lcs (decR x.1.data.toList).1.tab) :: G2)); refine W.region rfl<|hst.y rfl (Y.moveP rfl)<|hst.y rfl (Y.nilCheck rfl)<|?_
                          first
                          | refine hst.y rfl (Y.fieldAddr fa96_3 rfl) ?_
                          | refine hst.y rfl (Y.fieldAddrP fa96_3 rfl) ?_
                          refine hst.y rfl (Y.loadCell isAgg94 rfl (((((((((hru2.cons _).cons _).cons _).cons _).cons _).cons _).cons _).cons _).cons _) ((flat_get unC_len us ui 3 hlt (by decide)).trans rfl)) ?_; refine hst.y rfl (Y.moveI rfl)<|Ops.ww rfl (X.call cf58 rfl<|?_); refine use_call (Pop_at us[ui].lb (clrQ qs k) hQ k hk48 r _ _ _ _ _ hst.up_8) rfl ?_; clear hst; rintro e w131 ⟨b131, rfl, hb131, hst⟩; replace hst := hst.dn8; refine ⟨_, rfl, ?_⟩; refine hst.y rfl (Y.moveU rfl)<|hst.y rfl (Y.extract rfl rfl)<|hst.y rfl (Y.extract rfl rfl)<|Ops.ww rfl (X.storeS hst 0 sizeOf132 rfl rfl rfl rfl rfl (lZ rfl) rfl rfl fun w28_9 hst => hst.y rfl (Y.assignB rfl)<|Ops.done rfl<|?_); have hrt : r.tail = [] ∨ r ≠ [] := by cases r with | nil => exact .inl rfl | cons y r => exact .inr (by simp)
                          have htl := hd_tl r; rw [← hb131] at htl; have hps : hs.map ma ++ rowH k ((ageOf p us[ui].who stp.ages) k) (x :: r) = heardP qs (ageOf p us[ui].who stp.ages) (k + 1) := hpu; rw [rowH_cons] at hps; have hdf : decF k ((ageOf p us[ui].who stp.ages) k) x = none := if_neg hb147; rw [hdf] at hps; have hst2 := (hst.sub (.cons_cons _ (.cons _ (.cons _ (.cons_cons _ (.cons_cons _ (.cons_cons _ (.cons_cons _ (.cons_cons _ (.cons_cons _ (.refl _))))))))))); refine ⟨(p33, (r.headD e0, b131, r.tail), hs, (HA2, hc2), (rowR (.slice A137 (decR x.1.data.toList).1.tab.length c137) 114 2 (decR x.1.data.toList).1.tab.length (lcs (decR x.1.data.toList).1.tab) :: G2)), ⟨rfl, rfl, trivial⟩, ⟨rfl, rfl, rfl, rfl, rfl, rfl, rfl, rfl, trivial⟩, ⟨⟨?_, ?_, ?_, ?_, ?_⟩, ?_⟩, ?_⟩
                          · dsimp only; rw [htl]; exact hps
                          · intro hb; have hb' : b131 = false := hb; rw [hb'] at hb131; have h0 := of_decide_eq_false hb131.symm; have h1 : r = [] := Decidable.not_not.1 h0; show r.tail = []; rw [h1]; rfl
                          · exact size_hd (fun y hy => hsz y (.tail _ hy))
                          · exact fun r hr => .tail _ (hG2 r hr)
                          · exact fun h hh => ⟨(hf2 h hh).1, (hf2 h hh).2.consG _⟩
                          · exact hst2
                          · dsimp only; rw [hb131]
                            cases r with
                            | nil => simp
                            | cons y r => simp
                        · replace hb147 := dT hb147; refine W.condT rfl rfl ?_
                          have hhl : hs.length ≤ 4000 := by
                            have h1 := congrArg List.length hpu; rw [List.length_append, List.length_map] at h1; have h2 := heardP_len hq64 (ageOf p us[ui].who stp.ages) (k + 1); omega
                          refine W.region rfl<|hst.y rfl (Y.fieldAddr fa99_1 rfl)<|hst.y rfl (Y.load 3 isAgg97 rfl rfl rfl)<|hst.y rfl (Y.loadA 0 isAgg103 sizeOf103 rfl rfl rfl rfl)<|hst.y rfl (Y.moveI rfl)<|hst.y rfl (bd138_0_1 rfl)<|Ops.ww rfl (X.lit1 hst underlying97 sizeOf138 zeroValue138 rfl rfl rfl fun p153 w153 hst => Ops.ww rfl (X.app hst 3 0 underlying97 info138 rfl rfl rfl rfl rfl rfl rfl rfl (by (try dsimp only); unfold maxLen; omega) (by (try dsimp only); omega) fun A154 c154 w154 hst => ?_)); refine hst.y rfl (Y.fieldAddr fa99_1 rfl)<|Ops.ww rfl (X.storeV hst 4 (.slice _ _ _) sizeOf97 rfl rfl rfl rfl (lZ rfl) rfl rfl fun w31_8 hst => Ops.done rfl<|W.seq rfl<|W.sr rfl<|hst.y rfl (Y.loadA 2 isAgg132 sizeOf132 rfl rfl rfl rfl)<|Ops.done rfl<|W.region rfl<|Ops.ww rfl (X.allocA hst zeroValue132 fun p33 w33 hst => Ops.ww rfl (X.storeS hst 0 sizeOf132 rfl rfl rfl rfl rfl (lZ rfl) rfl rfl fun w33_1 hst => Ops.done rfl<|?_))); have hru2 := (hru.moreG hG1).moreG (fun r hr => List.mem_cons_of_mem _ (hG2 r hr) : ∀ r ∈ G1, r ∈ (rowR (.slice A137 (decR x.1.data.toList).1.tab.length c137) 114 2 (decR x.1.data.toList).1.tab.length (lcs (decR x.1.data.toList).1.tab) :: G2)); refine W.region rfl<|hst.y rfl (Y.moveP rfl)<|hst.y rfl (Y.nilCheck rfl)<|?_
                          first
                          | refine hst.y rfl (Y.fieldAddr fa96_3 rfl) ?_
                          | refine hst.y rfl (Y.fieldAddrP fa96_3 rfl) ?_
                          refine hst.y rfl (Y.loadCell isAgg94 rfl ((((((((((hru2.cons _).cons _).cons _).cons _).cons _).cons _).cons _).cons _).cons _).cons _) ((flat_get unC_len us ui 3 hlt (by decide)).trans rfl)) ?_; refine hst.y rfl (Y.moveI rfl)<|Ops.ww rfl (X.call cf58 rfl<|?_); refine use_call (Pop_at us[ui].lb (clrQ qs k) hQ k hk48 r _ _ _ _ _ hst.up_9) rfl ?_; clear hst; rintro e w131 ⟨b131, rfl, hb131, hst⟩; replace hst := hst.dn9; refine ⟨_, rfl, ?_⟩; refine hst.y rfl (Y.moveU rfl)<|hst.y rfl (Y.extract rfl rfl)<|hst.y rfl (Y.extract rfl rfl)<|Ops.ww rfl (X.storeS hst 0 sizeOf132 rfl rfl rfl rfl rfl (lZ rfl) rfl rfl fun w28_9 hst => hst.y rfl (Y.assignB rfl)<|Ops.done rfl<|?_); have hrt : r.tail = [] ∨ r ≠ [] := by cases r with | nil => exact .inl rfl | cons y r => exact .inr (by simp)
                          have htl := hd_tl r; rw [← hb131] at htl; have hps : hs.map ma ++ rowH k ((ageOf p us[ui].who stp.ages) k) (x :: r) = heardP qs (ageOf p us[ui].who stp.ages) (k + 1) := hpu; rw [rowH_cons] at hps; have hdf : decF k ((ageOf p us[ui].who stp.ages) k) x = some ((decR x.1.data.toList).1, (ageOf p us[ui].who stp.ages) k) := if_pos hb147; rw [hdf] at hps; have hst2 := (hst.sub (.cons_cons _ (.cons _ (.cons _ (.cons _ (.cons_cons _ (.cons_cons _ (.cons_cons _ (.cons_cons _ (.cons_cons _ (.cons_cons _ (.refl _)))))))))))); rw [show stp.ages.take stp.ages.length = stp.ages from List.take_length] at hst2; have e3 : (hs ++ [(⟨(decR x.1.data.toList).1, A137, c137, (ageOf p us[ui].who stp.ages) k⟩ : Hd)]).length = hs.length + 1 := by simp
                          have e4 : flat hdC (hs ++ [(⟨(decR x.1.data.toList).1, A137, c137, (ageOf p us[ui].who stp.ages) k⟩ : Hd)]) = flat hdC hs ++ hdC (⟨(decR x.1.data.toList).1, A137, c137, (ageOf p us[ui].who stp.ages) k⟩ : Hd) := by rw [flat_append]; simp [flat]
                          refine ⟨(p33, (r.headD e0, b131, r.tail), hs ++ [(⟨(decR x.1.data.toList).1, A137, c137, (ageOf p us[ui].who stp.ages) k⟩ : Hd)], (A154, c154), (rowR (.slice A137 (decR x.1.data.toList).1.tab.length c137) 114 2 (decR x.1.data.toList).1.tab.length (lcs (decR x.1.data.toList).1.tab) :: G2)), ⟨rfl, rfl, trivial⟩, ⟨rfl, rfl, rfl, rfl, rfl, rfl, rfl, rfl, trivial⟩, ⟨⟨?_, ?_, ?_, ?_, ?_⟩, ?_⟩, ?_⟩
                          · dsimp only; rw [htl, List.map_append, List.append_assoc]; exact hps
                          · intro hb; have hb' : b131 = false := hb; rw [hb'] at hb131; have h0 := of_decide_eq_false hb131.symm; have h1 : r = [] := Decidable.not_not.1 h0; show r.tail = []; rw [h1]; rfl
                          · exact size_hd (fun y hy => hsz y (.tail _ hy))
                          · exact fun r hr => .tail _ (hG2 r hr)
                          · intro h hh; rcases List.mem_append.1 hh with hh | hh
                            · exact ⟨(hf2 h hh).1, (hf2 h hh).2.consG _⟩
                            · rw [List.mem_singleton] at hh; subst hh; exact ⟨dec_tab hb147.1, Rds.rowG 0 rfl⟩
                          · dsimp only; rw [e3, e4]; unfold inpC; dsimp only; rw [e3]; exact hst2
                          · dsimp only; rw [hb131]
                            cases r with
                            | nil => simp
                            | cons y r => simp
                      refine W.region rfl<|hst.y rfl (Y.moveI rfl)<|hst.yb rfl (Y.eql rfl rfl) (fun b141 hb141 => hst.y rfl (Y.moveB rfl)<|?_); cases b141
                      · replace hb141 := dF hb141; refine Ops.nn rfl<|Ops.nn rfl<|Ops.nn rfl<|Ops.nn rfl<|hst.y rfl (Y.pB rfl rfl)<|Ops.done rfl<|?_; exact ⟨_, ⟨rfl, trivial⟩, ⟨rfl, rfl, rfl, rfl, rfl, rfl, rfl, rfl, rfl, rfl, trivial⟩, (decide_eq_false (fun h => hb141 h.1)).symm, hst⟩
                      · replace hb141 := dT hb141; refine hst.y rfl (Y.fieldAddr fa103_1 rfl)<|hst.y rfl (Y.load 0 isAgg3 rfl rfl rfl)<|hst.y rfl (Y.moveI rfl)<|hst.yb rfl (Y.eql rfl rfl) (fun b146 hb146 => hst.y rfl (Y.pB rfl rfl)<|Ops.done rfl<|?_); exact ⟨_, ⟨rfl, trivial⟩, ⟨rfl, rfl, rfl, rfl, rfl, rfl, rfl, rfl, rfl, rfl, trivial⟩, hb146.trans (decide_eq_decide.2 ⟨fun h => ⟨hb141, h⟩, fun h => h.2⟩), hst⟩
                · replace hb100 := dT hb100; refine W.condT rfl rfl<|W.skip rfl<|W.seq rfl<|W.block rfl<|W.seq rfl<|?_; have hk2 : k2 < stp.ages.length := by omega
                  refine W.region rfl<|hst.y rfl (Y.indexAddr underlying38 sizeOf121 rfl rfl ((hok1.ages.hd.sl hst).ne (flat_pos agC_len (by decide) (by omega))) (by omega))<|?_; refine hst.y rfl (Y.loadSlA isAgg121 sizeOf121 rfl hok1.ages.hd (flat_atI agC_len stp.ages k2 hk2) rfl)<|Ops.ww rfl (X.allocA hst zeroValue121 fun p15 w15 hst => Ops.ww rfl (X.storeS hst 0 sizeOf121 rfl rfl rfl rfl rfl (lZ rfl) rfl rfl fun w22_3 hst => Ops.done rfl<|W.seq rfl<|W.drawn rfl (by kernel_rfl) (Ctx _ _ (_) (_)) [] (.op 0 0 (.op 1 0 (.op 2 0 (.op 3 0 (.op 4 0 (.op 5 0 (.op 6 0 (.op 7 0 (.op 8 0 .nil))))))))) rfl (by kernel_rfl) hst.drew.ctx<|?_)); replace hst := hst.drew; generalize World.drew _ = wd at hst ⊢; refine hst.z rfl (Y.fieldAddr fa121_0 rfl)<|hst.z rfl (Y.loadA 0 isAgg77 sizeOf77 rfl rfl rfl rfl)<|hst.z rfl (Y.moveI rfl)<|hst.z rfl (Y.moveP rfl)<|hst.z rfl (Y.nilCheck rfl)<|?_
                  first
                  | refine hst.z rfl (Y.fieldAddr fa96_0 rfl) ?_
                  | refine hst.z rfl (Y.fieldAddrP fa96_0 rfl) ?_
                  refine hst.z rfl (Y.loadCell isAgg3 rfl (((((((hru1.cons _).cons _).cons _).cons _).cons _).cons _).cons _) ((flat_get unC_len us ui 0 hlt (by decide)).trans rfl)) ?_; refine hst.z rfl (bd77_0_1 rfl)<|Drw.yb rfl rfl rfl hst.ctx (Y.eq2 eqg_way eq2_way rfl rfl) (fun b111 hb111 => Drw.done<|?_); cases b111
                  · replace hb111 := dF hb111; refine W.condF rfl rfl<|W.skip rfl<|W.region rfl<|hst.y rfl (Y.addI rfl rfl (by omega))<|hst.y rfl (Y.moveI rfl)<|Ops.done rfl<|?_; have e2 := (ageOf_snoc p us[ui].who stp.ages k k2 hk2).trans (if_neg hb111); exact ⟨k2 + 1, ⟨rfl, congrArg (Value.int .i64) e2.symm, trivial⟩, ⟨rfl, rfl, rfl, rfl, rfl, rfl, rfl, rfl, rfl, trivial⟩, ⟨by omega, (hst.dr 1)⟩, by omega⟩
                  · replace hb111 := dT hb111; refine W.condT rfl rfl<|W.region rfl<|hst.y rfl (Y.fieldAddr fa121_1 rfl)<|hst.y rfl (Y.load 0 isAgg3 rfl rfl rfl)<|hst.y rfl (Y.assignI rfl)<|Ops.done rfl<|W.region rfl<|hst.y rfl (Y.addI rfl rfl (by omega))<|hst.y rfl (Y.moveI rfl)<|Ops.done rfl<|?_; have e2 := (ageOf_snoc p us[ui].who stp.ages k k2 hk2).trans (if_pos hb111); exact ⟨k2 + 1, ⟨rfl, congrArg (Value.int .i64) e2.symm, trivial⟩, ⟨rfl, rfl, rfl, rfl, rfl, rfl, rfl, rfl, rfl, trivial⟩, ⟨by omega, (hst.dr 1)⟩, by omega⟩
        · replace hb48 := dT hb48; refine W.condT rfl rfl<|W.skip rfl<|W.seq rfl<|W.block rfl<|W.seq rfl<|?_; have hk1 : k1 < stp.reads.length := by omega
          refine W.region rfl<|hst.y rfl (Y.indexAddr underlying37 sizeOf43 rfl rfl ((hok.reads.hd.sl hst).ne (flat_pos rdC_len (by decide) (by omega))) (by omega))<|?_; refine hst.y rfl (Y.loadSlA isAgg43 sizeOf43 rfl hok.reads.hd (flat_atI rdC_len stp.reads k1 hk1) rfl)<|Ops.ww rfl (X.allocA hst zeroValue43 fun p11 w11 hst => Ops.ww rfl (X.storeS hst 0 sizeOf43 rfl rfl rfl rfl rfl (lZ rfl) rfl rfl fun w10_3 hst => Ops.done rfl<|W.seq rfl<|?_)); refine W.cut [(0, .pointer _), (1, .pointer _), (5, .pointer _), (6, .pointer _), (7, .pointer _), (11, .pointer _), (45, .slice _ _ _), (46, .int _ _), (47, .int _ _)] (fun _ : Unit => []) (fun _ w => St w0 F0 w (cellsR p11 (rdC stp.reads[k1]) 43 :: cellsR p7 (inpC (rs1 us[ui].who (inpR p us[ui].who stp.ticks (stp.reads.take k1)) stp.reads[k1])) 99 :: cellsR p6 (inpC (inp0 0)) 99 :: cellsR p5 (stpC stp) 40 :: cellsR wb (wC p (time) (.slice (some ⟨ub, 0, none⟩) us.length uc) (.slice LA nl lc)) 86 :: QR us[ui].lb 0 (qs) :: L) G) ⟨rfl, rfl, rfl, rfl, rfl, rfl, rfl, rfl, rfl, trivial⟩ ?_ ?_
          rotate_left
          · clear hst; rintro _ j w11 hst; refine W.seq rfl<|W.drawn rfl (by kernel_rfl) (Ctx _ _ (_) (_)) [] (.op 0 0 (.op 1 0 (.op 2 0 (.op 3 0 (.op 4 0 (.op 5 0 (.op 6 0 (.op 7 0 (.op 8 0 (.op 9 0 (.op 10 0 .nil))))))))))) rfl (by kernel_rfl) hst.drew.ctx<|?_; replace hst := hst.drew; generalize World.drew _ = wd at hst ⊢; refine hst.z rfl (Y.fieldAddr fa43_0 rfl)<|hst.z rfl (Y.load 0 isAgg3 rfl rfl rfl)<|hst.z rfl (Y.moveP rfl)<|hst.z rfl (Y.nilCheck rfl)<|?_
            first
            | refine hst.z rfl (Y.fieldAddr fa96_0 rfl) ?_
            | refine hst.z rfl (Y.fieldAddrP fa96_0 rfl) ?_
            refine hst.z rfl (Y.loadCell isAgg3 rfl ((((((hru.cons _).cons _).cons _).cons _).cons _).cons _) ((flat_get unC_len us ui 0 hlt (by decide)).trans rfl)) ?_; refine Drw.yb rfl rfl rfl hst.ctx (Y.eql rfl rfl) (fun b72 hb72 => hst.z rfl (Y.moveB rfl)<|?_); cases b72
            · replace hb72 := dF hb72; refine Drw.no rfl rfl rfl hst.ctx<|Drw.no rfl rfl rfl hst.ctx<|hst.z rfl (Y.pB rfl rfl)<|Drw.done<|W.condF rfl rfl<|W.skip rfl<|W.region rfl<|hst.y rfl (Y.addI rfl rfl (by omega))<|hst.y rfl (Y.moveI rfl)<|Ops.done rfl<|?_; have e2 := (inpR_snoc p us[ui].who stp.ticks stp.reads k1 hk1).trans (if_neg (fun h => hb72 h.1)); exact ⟨k1 + 1, ⟨rfl, trivial⟩, ⟨rfl, rfl, rfl, rfl, rfl, rfl, rfl, trivial⟩, ⟨by omega, by rw [e2]; exact (hst.dr 1)⟩, by omega⟩
            · replace hb72 := dT hb72; refine hst.z rfl (Y.fieldAddr fa43_3 rfl)<|Drw.yb rfl rfl rfl hst.ctx (Y.cast (Y.load 0 isAgg4 rfl rfl rfl) (boolD _)) (fun b75 hb75 => hst.z rfl (Y.pB rfl rfl)<|Drw.done<|?_); cases b75
              · replace hb75 := dF hb75; refine W.condF rfl rfl<|W.skip rfl<|W.region rfl<|hst.y rfl (Y.addI rfl rfl (by omega))<|hst.y rfl (Y.moveI rfl)<|Ops.done rfl<|?_; have e2 := (inpR_snoc p us[ui].who stp.ticks stp.reads k1 hk1).trans (if_neg (fun h => hb75 h.2)); exact ⟨k1 + 1, ⟨rfl, trivial⟩, ⟨rfl, rfl, rfl, rfl, rfl, rfl, rfl, trivial⟩, ⟨by omega, by rw [e2]; exact (hst.dr 1)⟩, by omega⟩
              · replace hb75 := dT hb75; refine W.condT rfl rfl ?_; replace hst := hst.up_1; refine hst.dw 1 [] (T0 [0,1,2] (.op 3 1 (.op 4 0 (.op 5 1 .nil)))) rfl (by kernel_rfl) rfl (by kernel_rfl) fun wd hst => ?_; refine Drw.q rfl (hst.cx 1) (Y.fieldAddr fa43_4 rfl)<|Drw.q rfl (hst.cx 1) (Y.load 0 isAgg41 rfl rfl rfl)<|Drw.q rfl (hst.cx 1) (Y.fieldAddr fa99_4 rfl)<|Drw.ww rfl (X.storeV hst 0 (.bool _) sizeOf4 rfl rfl rfl rfl (lZ rfl) rfl rfl fun w14_3 hst => ⟨(hst.cx 1), Drw.q rfl (hst.cx 1) (Y.fieldAddr fa99_5 rfl)<|Drw.ww rfl (X.storeV hst 0 (.slice _ _ _) sizeOf41 rfl rfl rfl rfl (lZ rfl) rfl rfl fun w14_5 hst => ⟨(hst.cx 1), Drw.done<|W.region rfl<|hst.y rfl (Y.addI rfl rfl (by omega))<|hst.y rfl (Y.moveI rfl)<|Ops.done rfl<|?_⟩)⟩); have e2 := (inpR_snoc p us[ui].who stp.ticks stp.reads k1 hk1).trans (if_pos ⟨hb72, hb75⟩); exact ⟨k1 + 1, ⟨rfl, trivial⟩, ⟨rfl, rfl, rfl, rfl, rfl, rfl, rfl, trivial⟩, ⟨by omega, by rw [e2]; exact (hst.sub (.cons_cons _ (.cons _ (.cons_cons _ (.cons_cons _ (.cons_cons _ (.cons_cons _ (.refl _))))))))⟩, by omega⟩
          refine W.seq rfl<|W.drawn rfl (by kernel_rfl) (Ctx _ _ (_) (_)) [] (.op 0 0 (.op 1 0 (.op 2 0 (.op 3 0 (.op 4 0 (.op 5 0 (.op 6 0 (.op 7 0 (.op 8 0 (.op 9 0 (.op 10 0 .nil))))))))))) rfl (by kernel_rfl) hst.drew.ctx<|?_; replace hst := hst.drew; generalize World.drew _ = wd at hst ⊢; refine hst.z rfl (Y.fieldAddr fa43_0 rfl)<|hst.z rfl (Y.load 0 isAgg3 rfl rfl rfl)<|hst.z rfl (Y.moveP rfl)<|hst.z rfl (Y.nilCheck rfl)<|?_
          first
          | refine hst.z rfl (Y.fieldAddr fa96_0 rfl) ?_
          | refine hst.z rfl (Y.fieldAddrP fa96_0 rfl) ?_
          refine hst.z rfl (Y.loadCell isAgg3 rfl ((((((hru.cons _).cons _).cons _).cons _).cons _).cons _) ((flat_get unC_len us ui 0 hlt (by decide)).trans rfl)) ?_; refine Drw.yb rfl rfl rfl hst.ctx (Y.eql rfl rfl) (fun b57 hb57 => hst.z rfl (Y.moveB rfl)<|?_); cases b57
          · replace hb57 := dF hb57; refine Drw.no rfl rfl rfl hst.ctx<|Drw.no rfl rfl rfl hst.ctx<|hst.z rfl (Y.pB rfl rfl)<|Drw.done<|W.condF rfl rfl<|W.skip rfl<|?_; have hq : rs1 us[ui].who (inpR p us[ui].who stp.ticks (stp.reads.take k1)) stp.reads[k1] = inpR p us[ui].who stp.ticks (stp.reads.take k1) := if_neg (fun h => hb57 h.1); exact ⟨(), trivial, ⟨rfl, rfl, rfl, rfl, rfl, rfl, rfl, rfl, rfl, trivial⟩, by rw [hq]; exact hst⟩
          · replace hb57 := dT hb57; refine hst.z rfl (Y.fieldAddr fa43_1 rfl)<|Drw.yb rfl rfl rfl hst.ctx (Y.cast (Y.load 0 isAgg4 rfl rfl rfl) (boolD _)) (fun b60 hb60 => hst.z rfl (Y.pB rfl rfl)<|Drw.done<|?_); cases b60
            · replace hb60 := dF hb60; refine W.condF rfl rfl<|W.skip rfl<|?_; have hq : rs1 us[ui].who (inpR p us[ui].who stp.ticks (stp.reads.take k1)) stp.reads[k1] = inpR p us[ui].who stp.ticks (stp.reads.take k1) := if_neg (fun h => hb60 h.2); exact ⟨(), trivial, ⟨rfl, rfl, rfl, rfl, rfl, rfl, rfl, rfl, rfl, trivial⟩, by rw [hq]; exact hst⟩
            · replace hb60 := dT hb60; refine W.condT rfl rfl ?_; replace hst := hst.up_1; refine hst.dw 1 [] (T0 [0,1,2] (.op 3 1 (.op 4 0 (.op 5 1 .nil)))) rfl (by kernel_rfl) rfl (by kernel_rfl) fun wd hst => ?_; refine Drw.q rfl (hst.cx 1) (Y.fieldAddr fa43_2 rfl)<|Drw.q rfl (hst.cx 1) (Y.load 0 isAgg3 rfl rfl rfl)<|Drw.q rfl (hst.cx 1) (Y.fieldAddr fa99_2 rfl)<|Drw.ww rfl (X.storeV hst 0 (.bool _) sizeOf4 rfl rfl rfl rfl (lZ rfl) rfl rfl fun w12_3 hst => ⟨(hst.cx 1), Drw.q rfl (hst.cx 1) (Y.fieldAddr fa99_3 rfl)<|Drw.ww rfl (X.storeV hst 0 (.int _ _) sizeOf3 rfl rfl rfl rfl (lZ rfl) rfl rfl fun w12_5 hst => ⟨(hst.cx 1), Drw.done<|?_⟩)⟩); have hq : rs1 us[ui].who (inpR p us[ui].who stp.ticks (stp.reads.take k1)) stp.reads[k1] = { inpR p us[ui].who stp.ticks (stp.reads.take k1) with ref := true, reading := stp.reads[k1].reading } := if_pos ⟨hb57, hb60⟩; exact ⟨(), trivial, ⟨rfl, rfl, rfl, rfl, rfl, rfl, rfl, rfl, rfl, trivial⟩, by rw [hq]; exact hst.swap⟩
    · replace hb30 := dT hb30; refine W.condT rfl rfl<|W.skip rfl<|W.seq rfl<|W.block rfl<|W.seq rfl<|?_; have hk0 : k0 < stp.ticks.length := by omega
      refine W.region rfl<|hst.y rfl (Y.indexAddr underlying36 sizeOf119 rfl rfl ((hok.ticks.hd.sl hst).ne (flat_pos pairC_len (by decide) (by omega))) (by omega))<|?_; refine hst.y rfl (Y.loadSlA isAgg119 sizeOf119 rfl hok.ticks.hd (flat_atI pairC_len stp.ticks k0 hk0) rfl)<|Ops.ww rfl (X.allocA hst zeroValue119 fun p9 w9 hst => Ops.ww rfl (X.storeS hst 0 sizeOf119 rfl rfl rfl rfl rfl (lZ rfl) rfl rfl fun w4_3 hst => Ops.done rfl<|W.seq rfl<|W.drawn rfl (by kernel_rfl) (Ctx _ _ (_) (_)) [] (.op 0 0 (.op 1 0 (.op 2 0 (.op 3 0 (.op 4 0 (.op 5 0 (.op 6 0 .nil))))))) rfl (by kernel_rfl) hst.drew.ctx<|?_)); replace hst := hst.drew; generalize World.drew _ = wd at hst ⊢; refine hst.z rfl (Y.fieldAddr fa119_0 rfl)<|hst.z rfl (Y.load 0 isAgg3 rfl rfl rfl)<|hst.z rfl (Y.moveP rfl)<|hst.z rfl (Y.nilCheck rfl)<|?_
      first
      | refine hst.z rfl (Y.fieldAddr fa96_0 rfl) ?_
      | refine hst.z rfl (Y.fieldAddrP fa96_0 rfl) ?_
      refine hst.z rfl (Y.loadCell isAgg3 rfl ((((((hru.cons _).cons _).cons _).cons _).cons _).cons _) ((flat_get unC_len us ui 0 hlt (by decide)).trans rfl)) ?_; refine Drw.yb rfl rfl rfl hst.ctx (Y.eql rfl rfl) (fun b39 hb39 => Drw.done<|?_); cases b39
      · replace hb39 := dF hb39; refine W.condF rfl rfl<|W.skip rfl<|W.region rfl<|hst.y rfl (Y.addI rfl rfl (by omega))<|hst.y rfl (Y.moveI rfl)<|Ops.done rfl<|?_; have e2 := (tickOf_snoc p us[ui].who stp.ticks k0 hk0).trans (if_neg hb39); exact ⟨k0 + 1, ⟨rfl, trivial⟩, ⟨rfl, rfl, rfl, rfl, rfl, rfl, rfl, trivial⟩, ⟨by omega, by rw [e2]; exact (hst.dr 1)⟩, by omega⟩
      · replace hb39 := dT hb39; refine W.condT rfl rfl<|W.region rfl<|hst.y rfl (Y.fieldAddr fa119_1 rfl)<|hst.y rfl (Y.load 0 isAgg3 rfl rfl rfl)<|hst.y rfl (Y.fieldAddr fa99_0 rfl)<|Ops.ww rfl (X.storeV hst 1 (.int _ _) sizeOf3 rfl rfl rfl rfl (lZ rfl) rfl rfl fun w6_3 hst => Ops.done rfl<|W.region rfl<|hst.y rfl (Y.addI rfl rfl (by omega))<|hst.y rfl (Y.moveI rfl)<|Ops.done rfl<|?_); have e2 := (tickOf_snoc p us[ui].who stp.ticks k0 hk0).trans (if_pos hb39); exact ⟨k0 + 1, ⟨rfl, trivial⟩, ⟨rfl, rfl, rfl, rfl, rfl, rfl, rfl, trivial⟩, ⟨by omega, by rw [e2]; exact (hst.dr 1)⟩, by omega⟩
end Go.Proofs.YtaanjifekgfemaaGreat.Cl
end
section
namespace Go.Proofs.YtaanjifekgfemaaGreat.Cl
open Tryz
open Go.RowKit Go.Proofs.YtaanjifekgfemaaGreat.K Go.Proofs.YtaanjifekgfemaaGreat.W Go.Proofs.YtaanjifekgfemaaGreat.LN
def UM.setQs (m : UM) (q : Qs) : UM := { m with u := { m.u with qs := q } }
theorem setQs_un (m : UM) (q : Qs) : (m.setQs q).un = m.un := rfl
theorem setQs_fres (p : Par) (m : UM) (q : Qs) : (m.setQs q).fres p = m.fres p := rfl
def idxOf (us : List Un) (to : Int) : Nat := (idxI (isU to) us).toNat
def modAt (ms : List UM) (i : Nat) (f : UM → UM) : List UM := match ms[i]? with
  | some m => ms.set i (f m)
  | none => ms
def pushAt (us : List Un) (ms : List UM) (who : Int) (text : ByteArray) (to : Int) : List UM := modAt ms (idxOf us to) fun m => m.setQs (pushQ m.u.qs who text)
def textOf (who : Int) (frame : ByteArray) (l : Int × Int) (lies : List Li) : ByteArray := lies.foldl (fun t x => if (x.from_ = l.1 ∧ x.to = l.2) ∧ who < 16 then x.text else t) frame
theorem textOf_snoc (who : Int) (frame : ByteArray) (l : Int × Int) (lies : List Li) (k : Nat) (h : k < lies.length) : textOf who frame l (lies.take (k + 1)) = if (lies[k].from_ = l.1 ∧ lies[k].to = l.2) ∧ who < 16 then lies[k].text else textOf who frame l (lies.take k) := by
  unfold textOf; rw [List.take_succ_eq_append_getElem h, List.foldl_append]; rfl
def sendStep (us : List Un) (who : Int) (frame : ByteArray) (s : Stp) (ms : List UM) (l : Int × Int) : List UM :=
  if l.1 ≠ who ∨ l ∈ s.lost then ms else pushAt us ms who (textOf who frame l s.lies) l.2
def sendF (us : List Un) (who : Int) (frame : ByteArray) (s : Stp) (ms : List UM) (links : List (Int × Int)) : List UM := links.foldl (sendStep us who frame s) ms
theorem sendF_snoc (us : List Un) (who : Int) (frame : ByteArray) (s : Stp) (ms : List UM) (l : List (Int × Int)) (k : Nat) (h : k < l.length) : sendF us who frame s ms (l.take (k + 1)) = sendStep us who frame s (sendF us who frame s ms (l.take k)) l[k] := by
  unfold sendF; rw [List.take_succ_eq_append_getElem h, List.foldl_append]; rfl
theorem modAt_map {β : Type} (g : UM → β) {ms : List UM} (i : Nat) {f : UM → UM} (h : ∀ m, g (f m) = g m) : (modAt ms i f).map g = ms.map g := by
  unfold modAt
  cases hm : ms[i]? with
  | none => rfl
  | some m =>
    dsimp only; rw [List.map_set, h]; obtain ⟨hi, rfl⟩ := List.getElem?_eq_some_iff.1 hm; apply List.ext_getElem
    · simp
    · intro j h1 h2; rw [List.getElem_set]; split
      · rename_i e; subst e; simp
      · rfl
theorem pushAt_map {β : Type} (g : UM → β) (h : ∀ m q, g (m.setQs q) = g m) (us : List Un) (ms : List UM) (who : Int) (text : ByteArray) (to : Int) : (pushAt us ms who text to).map g = ms.map g := modAt_map g _ fun m => h m _
theorem sendF_map {β : Type} (g : UM → β) (h : ∀ m q, g (m.setQs q) = g m) (us : List Un) (who : Int) (frame : ByteArray) (s : Stp) (ms : List UM) (links : List (Int × Int)) : (sendF us who frame s ms links).map g = ms.map g := by
  unfold sendF
  induction links generalizing ms with
  | nil => rfl
  | cons l ls ih =>
    rw [List.foldl_cons, ih]; unfold sendStep; split
    · rfl
    · exact pushAt_map g h _ _ _ _ _
theorem modAt_at {ms : List UM} {i : Nat} {m : UM} (h : ms[i]? = some m) (f : UM → UM) : modAt ms i f = ms.set i (f m) := by unfold modAt; rw [h]
def encM (m : M) : ByteArray := (encV m.kind m.from_ m.slo m.shi m.held m.hops m.good m.ref m.elo m.ehi m.pulse m.time m.num m.tab).1
def MIn (m : M) : Prop := MsgIn m.kind m.from_ m.slo m.shi m.held m.hops m.elo m.ehi m.pulse m.time m.num m.tab
def sendM (us : List Un) (who : Int) (m : M) (s : Stp) (ms : List UM) (links : List (Int × Int)) : List UM := sendF us who (encM m) s ms links
def LinksOk (us : List Un) (links : List (Int × Int)) : Prop := ∀ l ∈ links, ∃ i : Nat, idxI (isU l.2) us = (i : Int)
end Go.Proofs.YtaanjifekgfemaaGreat.Cl
end
section
namespace Go.Proofs.YtaanjifekgfemaaGreat.Cl
open Tryz
open Go.RowKit Go.Proofs.YtaanjifekgfemaaGreat.K Go.Proofs.YtaanjifekgfemaaGreat.W Go.Proofs.YtaanjifekgfemaaGreat.LN
attribute [local irreducible] bound clip adds sub neg mag mulp mul maxs
theorem fa40_3 : FA 40 3 3 := fun _ _ => by simp [Instr.fieldAt, Instr.sureAddr, go_sem]
theorem fa40_4 : FA 40 4 4 := fun _ _ => by simp [Instr.fieldAt, Instr.sureAddr, go_sem]
theorem fa79_0 : FA 79 0 0 := fun _ _ => by simp [Instr.fieldAt, Instr.sureAddr, go_sem]
theorem fa79_1 : FA 79 1 2 := fun _ _ => by simp [Instr.fieldAt, Instr.sureAddr, go_sem]
theorem cf61 : CF 61 := fun _ _ => by simp [go_sem]
set_option maxHeartbeats 4000000 in
theorem send_any (wb : Nat) (p : Par) (time : Int) (ub : Nat) (us : List Un) (uc : Nat) (LA : Option Addr) (lc : Nat) (links : List (Int × Int)) (hll : links.length ≤ 1000000) (hul : us.length ≤ 1000000) (ms : List UM) (hus : unL ms = us) (hlk : LinksOk us links) (who : Int) (m : M) (A : Option Addr) (cap : Nat) (hin : MIn m) (stp : Stp) (w0 w : World) (F0 : List Nat) (L G : List Res) (hst : St w0 F0 w (cellsR wb (wC p (time) (.slice (some ⟨ub, 0, none⟩) us.length uc) (.slice LA links.length lc)) 86 :: rowR (.slice (some ⟨ub, 0, none⟩) us.length uc) 96 4 us.length (flat unC (us)) :: rowR (.slice LA (links).length lc) 77 2 (links).length (flat pairC (links)) :: ((ms).map UM.lres ++ L)) G) (hrm : Rds [] G (.slice A (m.tab).length cap) (m.tab).length (lcs (m.tab))) (hok : stp.Ok G) :
    Calls Tryz.prog 33 #[.pointer (some ⟨wb, 0, none⟩), .int .i64 who, .agg #[.int .i64 m.kind, .int .i64 m.from_, .int .i64 m.slo, .int .i64 m.shi, .int .i64 m.held, .int .i64 m.hops, .bool m.good, .bool m.ref, .int .i64 m.elo, .int .i64 m.ehi, .int .i64 m.pulse, .int .i64 m.time, .int .i64 m.num, .slice A m.tab.length cap], .agg (stpC stp).toArray] w fun e w' => e = .returned (.tuple #[]) ∧ St w0 F0 w' (cellsR wb (wC p (time) (.slice (some ⟨ub, 0, none⟩) us.length uc) (.slice LA links.length lc)) 86 :: rowR (.slice (some ⟨ub, 0, none⟩) us.length uc) 96 4 us.length (flat unC (us)) :: rowR (.slice LA (links).length lc) 77 2 (links).length (flat pairC (links)) :: ((sendM us who m stp ms links).map UM.lres ++ L)) G := by
  obtain ⟨hl0, hl1, hl2, hl3, hl4, hl5, hl6, hl7⟩ := hok.lens; refine W.func func33 rfl ntmps33 rfl<|W.sr rfl<|Ops.ww rfl (X.boxA hst rfl fun p6 w6 hst => Ops.ww rfl (X.boxA hst rfl fun p7 w7 hst => Ops.ds rfl rfl<|hst.y rfl (Y.loadA 1 isAgg103 sizeOf103 rfl rfl rfl rfl)<|Ops.ww rfl (X.ret cf61 (Encode_any m.kind m.from_ m.slo m.shi m.held m.hops m.good m.ref m.elo m.ehi m.pulse m.time m.num m.tab A cap _ _ _ _ _ hst hrm.hd hin) rfl fun w17 hst => hst.y rfl (Y.moveU rfl)<|hst.y rfl (Y.extract rfl rfl)<|hst.y rfl (Y.extract rfl rfl)<|hst.y rfl (Y.assignT rfl)<|hst.y rfl (Y.assignI rfl)<|Ops.ds rfl rfl<|hst.y rfl (Y.moveP rfl)<|hst.y rfl (Y.nilCheck rfl)<|hst.y rfl (Y.fieldAddr fa86_3 rfl)<|hst.y rfl (Y.load 2 isAgg25 rfl rfl rfl)<|hst.y rfl (Y.lenS underlying25 rfl)<|hst.y rfl (Y.moveI rfl)<|Ops.done rfl<|W.block rfl<|?_))); refine W.loop (γ := Nat) [(0, .pointer _), (1, .int _ _), (7, .pointer _), (8, .string _), (23, .slice _ _ _), (24, .int _ _)] (fun k => [(25, .int .i64 (k : Int))]) (fun k w => k ≤ links.length ∧ St w0 F0 w (cellsR p7 (stpC stp) 40 :: cellsR p6 (msgC m A cap) 103 :: cellsR wb (wC p (time) (.slice (some ⟨ub, 0, none⟩) us.length uc) (.slice LA links.length lc)) 86 :: rowR (.slice (some ⟨ub, 0, none⟩) us.length uc) 96 4 us.length (flat unC (us)) :: rowR (.slice LA (links).length lc) 77 2 (links).length (flat pairC (links)) :: ((sendF us who (encM m) stp ms (links.take k)).map UM.lres ++ L)) G) (fun k => links.length - k) (0) rfl ⟨rfl, rfl, rfl, rfl, rfl, rfl, trivial⟩ ?_ ?_ ?_
  · exact ⟨rfl, trivial⟩
  · exact ⟨by omega, hst⟩
  · clear hst; rintro k j w3 ⟨hk, hst⟩; refine W.sr rfl<|hst.yb rfl (Y.lss rfl rfl) (fun b26 hb26 => Ops.done rfl<|W.seq rfl<|?_); cases b26
    · replace hb26 := dF hb26; refine W.condF rfl rfl<|W.exit rfl<|⟨_, Rslt.none results33, ?_⟩; obtain rfl : k = links.length := by omega
      have e1 : links.take links.length = links := List.take_length; rw [e1] at hst; exact ⟨rfl, (hst.dr 2)⟩
    · replace hb26 := dT hb26; refine W.condT rfl rfl<|W.skip rfl<|W.seq rfl<|W.block rfl<|W.seq rfl<|?_; have hk1 : k < links.length := by omega
      refine W.region rfl<|hst.y rfl (Y.indexAddr underlying25 sizeOf77 rfl rfl ((Rds.sl (Rds.rowL 4 (by rfl)) hst).ne (flat_pos pairC_len (by decide) (by omega))) (by omega))<|?_; refine hst.y rfl (Y.loadSlA isAgg77 sizeOf77 rfl (Rds.rowL 4 rfl) (flat_atI pairC_len links k hk1) rfl)<|Ops.ww rfl (X.allocA hst zeroValue77 fun p11 w11 hst => Ops.ww rfl (X.storeS hst 0 sizeOf77 rfl rfl rfl rfl rfl (lZ rfl) rfl rfl fun w4_3 hst => Ops.ds rfl rfl<|hst.y rfl (Y.moveT rfl)<|hst.y rfl (Y.assignT rfl)<|Ops.done rfl<|W.seq rfl<|W.sr rfl<|hst.y rfl (Y.fieldAddr fa77_0 rfl)<|hst.y rfl (Y.load 0 isAgg3 rfl rfl rfl)<|hst.y rfl (Y.moveI rfl)<|hst.yb rfl (Y.neq rfl rfl) (fun b33 hb33 => hst.y rfl (Y.moveB rfl)<|?_))); cases b33
      · replace hb33 := dF hb33; refine hst.y rfl (Y.fieldAddr fa40_3 rfl)<|hst.y rfl (Y.load 1 isAgg25 rfl rfl rfl)<|hst.y rfl (Y.loadA 0 isAgg77 sizeOf77 rfl rfl rfl rfl)<|Ops.ww rfl (X.retB cf57 (contains_way stp.lost (by omega) _ _ links[k] _ _ _ _ _ hst hok.lost.hd) rfl fun b38 w38 hb38 hst => hst.y rfl (Y.pB rfl rfl)<|Ops.done rfl<|?_); cases b38
        · replace hb38 := dF hb38; refine W.condF rfl rfl<|W.skip rfl<|W.seq rfl<|W.sr rfl<|hst.y rfl (Y.fieldAddr fa40_4 rfl)<|hst.y rfl (Y.load 1 isAgg27 rfl rfl rfl)<|hst.y rfl (Y.lenS underlying27 rfl)<|hst.y rfl (Y.moveI rfl)<|Ops.done rfl<|W.block rfl<|?_; refine W.loop (γ := Nat) [(0, .pointer _), (1, .int _ _), (7, .pointer _), (8, .string _), (11, .pointer _), (23, .slice _ _ _), (24, .int _ _), (25, .int _ _), (41, .slice _ _ _), (42, .int _ _)] (fun k2 => [(43, .int .i64 (k2 : Int)), (12, .string (textOf who (encM m) links[k] (stp.lies.take k2)))]) (fun k2 w => k2 ≤ stp.lies.length ∧ St w0 F0 w (cellsR p11 (pairC links[k]) 77 :: cellsR p7 (stpC stp) 40 :: cellsR p6 (msgC m A cap) 103 :: cellsR wb (wC p (time) (.slice (some ⟨ub, 0, none⟩) us.length uc) (.slice LA links.length lc)) 86 :: rowR (.slice (some ⟨ub, 0, none⟩) us.length uc) 96 4 us.length (flat unC (us)) :: rowR (.slice LA (links).length lc) 77 2 (links).length (flat pairC (links)) :: ((sendF us who (encM m) stp ms (links.take k)).map UM.lres ++ L)) G) (fun k2 => stp.lies.length - k2) (0) rfl ⟨rfl, rfl, rfl, rfl, rfl, rfl, rfl, rfl, rfl, rfl, trivial⟩ ?_ ?_ ?_
          · exact ⟨rfl, rfl, trivial⟩
          · exact ⟨by omega, hst⟩
          · clear hst; rintro k2 j w8 ⟨hk2', hst⟩; refine W.sr rfl<|hst.yb rfl (Y.lss rfl rfl) (fun b44 hb44 => Ops.done rfl<|W.seq rfl<|?_); cases b44
            · replace hb44 := dF hb44; refine W.condF rfl rfl<|W.exit rfl<|?_; obtain rfl : k2 = stp.lies.length := by omega
              obtain ⟨i, hi⟩ := hlk _ (List.getElem_mem hk1); have hlt := idx_lt hi; have hunk : unL (sendF us who (encM m) stp ms (links.take k)) = us := (sendF_map UM.un setQs_un _ _ _ _ _ _).trans hus
              obtain ⟨mi, hmi⟩ : ∃ mi, (sendF us who (encM m) stp ms (links.take k))[i]? = some mi := by
                have h1 := congrArg List.length hunk; rw [unL, List.length_map] at h1; exact ⟨_, List.getElem?_eq_getElem (by omega)⟩
              have hlb : us[i].lb = mi.lb := by
                have h1 : us[i]? = some mi.un := by rw [← hunk]; unfold unL; rw [List.getElem?_map, hmi]; rfl
                rw [List.getElem?_eq_getElem hlt] at h1; injection h1 with h1; rw [h1]; rfl
              refine W.region rfl<|hst.y rfl (Y.moveP rfl)<|hst.y rfl (Y.fieldAddr fa77_1 rfl)<|hst.y rfl (Y.load 0 isAgg3 rfl rfl rfl)<|Ops.ww rfl (X.ret cf34 (dn3 (unit_in wb p time ub us uc LA links.length lc links[k].2 hul i hi _ _ _ _ _ hst.up_3 (Rds.rowL 3 rfl))) rfl fun w61 hst => hst.y rfl (Y.nilCheck rfl)<|?_)
              first
              | refine hst.y rfl (Y.fieldAddr fa96_3 rfl) ?_
              | refine hst.y rfl (Y.fieldAddrP fa96_3 rfl) ?_
              refine hst.y rfl (Y.cast (Y.loadCell isAgg94 rfl (Rds.rowL 4 rfl) ((flat_get unC_len us i 3 hlt (by decide)).trans rfl)) (congrArg (fun z => Value.pointer (some ⟨z, 0, none⟩)) hlb)) ?_; refine hst.y rfl (Y.moveI rfl)<|hst.y rfl (Y.moveT rfl)<|Ops.ww rfl (X.call cf54 rfl<|?_); refine use_call (Push_any mi.lb 0 mi.u.qs who (textOf who (encM m) links[k] (stp.lies.take stp.lies.length)) _ _ _ _ _ (hst.foc (pre := [_, _, _, _, _, _]) (mid := (sendF us who (encM m) stp ms (links.take k)).map UM.lres) (post := L) (i := i) (by rw [List.getElem?_map, hmi]; rfl)) (by decide)) rfl ?_; clear hst; rintro e w67 ⟨rfl, hst⟩; replace hst := St.unfoc (pre := [_, _, _, _, _, _]) (mid := (sendF us who (encM m) stp ms (links.take k)).map UM.lres) (post := L) (i := i) (r := mi.lres) hst (by rw [List.getElem?_map, hmi]; rfl); refine ⟨_, rfl, ?_⟩; refine Ops.done rfl<|W.region rfl<|hst.y rfl (Y.addI rfl rfl (by omega))<|hst.y rfl (Y.moveI rfl)<|Ops.done rfl<|?_; have e0 : stp.lies.take stp.lies.length = stp.lies := List.take_length; have hst2 := (hst.dr 1); rw [e0] at hst2; have e1 : idxOf us links[k].2 = i := by unfold idxOf; rw [hi]; rfl
              have e2 : sendF us who (encM m) stp ms (links.take (k + 1)) = pushAt us (sendF us who (encM m) stp ms (links.take k)) who (textOf who (encM m) links[k] stp.lies) links[k].2 := (sendF_snoc us who (encM m) stp ms links k hk1).trans (if_neg (fun h => h.elim hb33 hb38)); have e3 : pushAt us (sendF us who (encM m) stp ms (links.take k)) who (textOf who (encM m) links[k] stp.lies) links[k].2 = (sendF us who (encM m) stp ms (links.take k)).set i (mi.setQs (pushQ mi.u.qs who (textOf who (encM m) links[k] stp.lies))) := by unfold pushAt; rw [e1]; exact modAt_at hmi _
              refine ⟨k + 1, ⟨rfl, trivial⟩, ⟨rfl, rfl, rfl, rfl, rfl, rfl, trivial⟩, ⟨by omega, ?_⟩, by omega⟩; rw [e2, e3, List.map_set]; exact hst2
            · replace hb44 := dT hb44; refine W.condT rfl rfl<|W.skip rfl<|W.seq rfl<|W.block rfl<|W.seq rfl<|?_; have hk2 : k2 < stp.lies.length := by omega
              refine W.region rfl<|hst.y rfl (Y.indexAddr underlying27 sizeOf79 rfl rfl ((hok.lies.hd.sl hst).ne (flat_pos liC_len (by decide) (by omega))) (by omega))<|?_; refine hst.y rfl (Y.loadSlA isAgg79 sizeOf79 rfl hok.lies.hd (flat_atI liC_len stp.lies k2 hk2) rfl)<|Ops.ww rfl (X.allocA hst zeroValue79 fun p14 w14 hst => Ops.ww rfl (X.storeS hst 0 sizeOf79 rfl rfl rfl rfl rfl (lZ rfl) rfl rfl fun w9_3 hst => Ops.ds rfl rfl<|hst.y rfl (Y.fieldAddr fa79_0 rfl)<|hst.y rfl (Y.loadA 0 isAgg77 sizeOf77 rfl rfl rfl rfl)<|hst.y rfl (Y.loadA 1 isAgg77 sizeOf77 rfl rfl rfl rfl)<|hst.yb rfl (Y.eq2 eqg_way eq2_way rfl rfl) (fun b50 hb50 => hst.y rfl (Y.moveB rfl)<|?_))); cases b50
              · replace hb50 := dF hb50; refine Ops.nn rfl<|Ops.nn rfl<|hst.y rfl (Y.pB rfl rfl)<|Ops.done rfl<|W.condF rfl rfl<|W.skip rfl<|W.region rfl<|hst.y rfl (Y.addI rfl rfl (by omega))<|hst.y rfl (Y.moveI rfl)<|Ops.done rfl<|?_; have e2 := (textOf_snoc who (encM m) links[k] stp.lies k2 hk2).trans (if_neg (fun h => hb50 h.1)); exact ⟨k2 + 1, ⟨rfl, congrArg Value.string e2.symm, trivial⟩, ⟨rfl, rfl, rfl, rfl, rfl, rfl, rfl, rfl, rfl, rfl, trivial⟩, ⟨by omega, (hst.dr 1)⟩, by omega⟩
              · replace hb50 := dT hb50; refine hst.y rfl (Y.moveI rfl)<|hst.yb rfl (Y.lss rfl rfl) (fun b53 hb53 => hst.y rfl (Y.pB rfl rfl)<|Ops.done rfl<|?_); cases b53
                · replace hb53 := dF hb53; refine W.condF rfl rfl<|W.skip rfl<|W.region rfl<|hst.y rfl (Y.addI rfl rfl (by omega))<|hst.y rfl (Y.moveI rfl)<|Ops.done rfl<|?_; have e2 := (textOf_snoc who (encM m) links[k] stp.lies k2 hk2).trans (if_neg (fun h => hb53 h.2)); exact ⟨k2 + 1, ⟨rfl, congrArg Value.string e2.symm, trivial⟩, ⟨rfl, rfl, rfl, rfl, rfl, rfl, rfl, rfl, rfl, rfl, trivial⟩, ⟨by omega, (hst.dr 1)⟩, by omega⟩
                · replace hb53 := dT hb53; refine W.condT rfl rfl<|W.region rfl<|hst.y rfl (Y.fieldAddr fa79_1 rfl)<|hst.y rfl (Y.load 0 isAgg9 rfl rfl rfl)<|hst.y rfl (Y.assignT rfl)<|Ops.done rfl<|W.region rfl<|hst.y rfl (Y.addI rfl rfl (by omega))<|hst.y rfl (Y.moveI rfl)<|Ops.done rfl<|?_; have e2 := (textOf_snoc who (encM m) links[k] stp.lies k2 hk2).trans (if_pos ⟨hb50, hb53⟩); exact ⟨k2 + 1, ⟨rfl, congrArg Value.string e2.symm, trivial⟩, ⟨rfl, rfl, rfl, rfl, rfl, rfl, rfl, rfl, rfl, rfl, trivial⟩, ⟨by omega, (hst.dr 1)⟩, by omega⟩
        · replace hb38 := dT hb38; refine W.condT rfl rfl<|W.exit rfl<|W.region rfl<|hst.y rfl (Y.addI rfl rfl (by omega))<|hst.y rfl (Y.moveI rfl)<|Ops.done rfl<|?_; have e2 := (sendF_snoc us who (encM m) stp ms links k hk1).trans (if_pos (.inr hb38)); exact ⟨k + 1, ⟨rfl, trivial⟩, ⟨rfl, rfl, rfl, rfl, rfl, rfl, trivial⟩, ⟨by omega, by rw [e2]; exact (hst.dr 1)⟩, by omega⟩
      · replace hb33 := dT hb33; refine Ops.nn rfl<|Ops.nn rfl<|Ops.nn rfl<|Ops.nn rfl<|hst.y rfl (Y.pB rfl rfl)<|Ops.done rfl<|W.condT rfl rfl<|W.exit rfl<|W.region rfl<|hst.y rfl (Y.addI rfl rfl (by omega))<|hst.y rfl (Y.moveI rfl)<|Ops.done rfl<|?_; have e2 := (sendF_snoc us who (encM m) stp ms links k hk1).trans (if_pos (.inl hb33)); exact ⟨k + 1, ⟨rfl, trivial⟩, ⟨rfl, rfl, rfl, rfl, rfl, rfl, trivial⟩, ⟨by omega, by rw [e2]; exact (hst.dr 1)⟩, by omega⟩
end Go.Proofs.YtaanjifekgfemaaGreat.Cl
end
section
namespace Go.Proofs.YtaanjifekgfemaaGreat.K
open Tryz
open Go.RowKit
section
variable {P : Program} {n : Fr} {c : Code} {Q : Post} {ρ : Env} {w0 w : World} {F0 : List Nat} {L G : List Res} {S : World → Prop} {ty t t' : TypeId} {x y z : Operand}
theorem made_flat {α : Type} {c : α → List Value} {m : Nat} (hc : ∀ x, (c x).length = m) (hm : 0 < m) (x0 : α) (n : Nat) : (madeCells (c x0).toArray (n * m)).toList = flat c (List.replicate n x0) := by
  apply List.ext_getElem?; intro j; have hl := flat_length hc (List.replicate n x0); rw [List.length_replicate] at hl; rcases Nat.lt_or_ge j (n * m) with hj | hj
  · have h1 : j / m < (List.replicate n x0).length := by rw [List.length_replicate]; exact Nat.div_lt_of_lt_mul (by rw [Nat.mul_comm]; exact hj)
    have h2 : j % m < m := Nat.mod_lt _ hm; have h3 := flat_get hc (List.replicate n x0) (j / m) (j % m) h1 h2; have h4 : j / m * m + j % m = j := Nat.div_add_mod' j m; rw [h4] at h3; rw [h3]; have h5 : (List.replicate n x0)[j / m] = x0 := by simp
    rw [h5]; have h6 : j % m < (c x0).length := by rw [hc]; exact h2
    simp [madeCells, hj, hc]; rw [List.getElem?_eq_getElem h6]; rfl
  · rw [List.getElem?_eq_none (l := flat c (List.replicate n x0)) (by rw [hl]; exact hj)]; exact List.getElem?_eq_none (by simp [madeCells]; exact hj)
theorem X.makeS (hst : St w0 F0 w L G) {e : TypeId} (ht : P.underlying t = some (.slice e)) {α : Type} (c : α → List Value) (x0 : α) {m bytes : Nat} (hinfo : (P.info? e).map (fun i => (i.zero, i.size, i.bytes)) = some (some (.agg (c x0).toArray), m, bytes)) (hc : ∀ x, (c x).length = m) (hm : Nat.blt 0 m = true) {n : Nat}
    (hx : ev ρ x = .int .i64 (n : Int)) (hy : ev ρ y = .int .i64 (n : Int)) (hb : bytes * n ≤ 281474976710656) (h63 : n ≤ 9223372036854775807) {K : Value → World → Prop}
    (k : ∀ b w', St w0 F0 w' (cellsR b (flat c (List.replicate n x0)) e :: L) G → K (.slice (some ⟨b, 0, none⟩) n n) w') : X P ρ w (.makeSlice t x y) ty K := by
  intro a ops Q o ho _ ha hw; obtain ⟨i, hi, hzz⟩ := Option.map_eq_some_iff.1 hinfo; simp only [Prod.mk.injEq] at hzz; obtain ⟨hz, hs, hbb⟩ := hzz
  have hb' : (i.bytes : Int) * (n : Int) ≤ 281474976710656 := by
    have h : ((i.bytes * n : Nat) : Int) ≤ 281474976710656 := by rw [hbb]; omega
    rwa [Int.natCast_mul] at h
  have hr := run_make (P := P) w t e i _ ht hi hz .i64 .i64 n n (by omega) (Int.le_refl _) hb' (by omega); simp only [Int.toNat_natCast, hs] at hr; refine wpl hw (v := .slice (some ⟨w.heap.size, 0, none⟩) n n) (w' := w.alloc (.cells (madeCells (Value.agg (c x0).toArray).cells (n * m)) e)) ?_ ⟨_, rfl, k _ _ ?_⟩
  · rw [ha]; simp [execOp, ho, hx, hy, hr]
  · refine hst.alloc _ _ rfl ?_; have h1 := cellsR_new w (flat c (List.replicate n x0)) e
    have h2 : (flat c (List.replicate n x0)).toArray = madeCells (Value.agg (c x0).toArray).cells (n * m) := by
      apply Array.ext'; rw [← made_flat hc (by simpa [Nat.blt_eq] using hm)]; simp [Value.cells]
    rwa [h2] at h1
theorem St.focF2 {pre lan post : List Res} {mid : List (List Res)} {i : Nat} {r : List Res} (h : St w0 F0 w (pre ++ (lan ++ (mid.flatten ++ post))) G) (hi : mid[i]? = some r) : St w0 F0 w (r ++ (pre ++ (lan ++ ((mid.eraseIdx i).flatten ++ post)))) G := by
  rw [← List.append_assoc pre] at h ⊢; exact h.focF hi
theorem St.unfocF2 {pre lan post : List Res} {mid : List (List Res)} {i : Nat} {r r' : List Res} (h : St w0 F0 w (r' ++ (pre ++ (lan ++ ((mid.eraseIdx i).flatten ++ post)))) G) (hi : mid[i]? = some r) : St w0 F0 w (pre ++ (lan ++ ((mid.set i r').flatten ++ post))) G := by
  rw [← List.append_assoc pre] at h ⊢; exact h.unfocF hi
theorem St.lan {a b c : Res} {S M X : List Res} (h : St w0 F0 w (a :: b :: c :: (S ++ (M ++ X))) G) : St w0 F0 w (a :: b :: c :: (M ++ (S ++ X))) G :=
  h.perm ((((by
    rw [← List.append_assoc, ← List.append_assoc]
    exact List.perm_append_comm.append_right _ : (S ++ (M ++ X)).Perm (M ++ (S ++ X))).cons c).cons b).cons a)
end
end Go.Proofs.YtaanjifekgfemaaGreat.K
end
section
namespace Go.Proofs.YtaanjifekgfemaaGreat.Cl
open Tryz
open Go.RowKit Go.Proofs.YtaanjifekgfemaaGreat.K Go.Proofs.YtaanjifekgfemaaGreat.W Go.Proofs.YtaanjifekgfemaaGreat.LN
def BeatC (p : Par) (u : PU) (i : Inp) (u' : PU) (msg : M) : Prop :=
  (u.who < 16 ∧ u'.s = stampS (gateBeat p u.who u.s i) ∧ u'.es = u.es ∧ msg = gateMsg p u.who u.s i) ∨
  (¬ u.who < 16 ∧ ∃ clock tab, coreTab p (knownK u.who u.es clock i.heard).out u.s tab ∧ u'.s = stampS (nodeBeat p (knownK u.who u.es clock i.heard).out u.s i.ticks tab) ∧ u'.es = tickT 2 (knownK u.who u.es clock i.heard).es ∧ msg = nodeMsg p u.who (knownK u.who u.es clock i.heard).out u.s i.ticks tab)
def BeatU (p : Par) (s : Stp) (u u' : PU) (msg : M) : Prop :=
  u'.who = u.who ∧ u'.qs = qs0 ∧ ((u.who ∈ s.off ∧ u'.s = u.s ∧ u'.es = u.es ∧ msg = M0) ∨ (u.who ∉ s.off ∧ ∃ i, InpOf p s u.who u.qs i ∧ BeatC p u i u' msg))
theorem BeatU.off {p : Par} {s : Stp} {u : PU} (h : u.who ∈ s.off) : BeatU p s u { u with qs := qs0 } M0 := ⟨rfl, rfl, .inl ⟨h, rfl, rfl, rfl⟩⟩
def MsgOk (G : List Res) (h : Hd) : Prop := MIn h.m ∧ Rds [] G (.slice h.A h.m.tab.length h.cap) h.m.tab.length (lcs h.m.tab)
theorem MsgOk.mono {G G' : List Res} {h : Hd} (hm : MsgOk G h) (hG : ∀ r ∈ G, r ∈ G') : MsgOk G' h := ⟨hm.1, hm.2.moreG hG⟩
structure RunS (p : Par) (s : Stp) (us : List Un) (ms : List UM) (G : List Res) (k : Nat) (ms1 : List UM) (sd : List Hd) (G1 : List Res) : Prop where
  len : sd.length = ms.length
  done : ∀ j m m' h, ms[j]? = some m → ms1[j]? = some m' → sd[j]? = some h → j < k → BeatU p s m.u m'.u h.m
  left : ∀ j, k ≤ j → ms1[j]? = ms[j]?
  left2 : ∀ j h, k ≤ j → sd[j]? = some h → h = Hd0
  un : unL ms1 = us
  ok : ∀ m ∈ ms1, m.Ok p G1
  msg : ∀ h ∈ sd, MsgOk G1 h
  more : ∀ r ∈ G, r ∈ G1
theorem unL_len {ms : List UM} {us : List Un} (h : unL ms = us) : ms.length = us.length := by rw [← h]; unfold unL; rw [List.length_map]
theorem unL_at {ms : List UM} {us : List Un} (h : unL ms = us) {k : Nat} {m : UM} (hm : ms[k]? = some m) : us[k]? = some m.un := by
  rw [← h]; unfold unL; rw [List.getElem?_map, hm]; rfl
theorem RunS.step {p : Par} {s : Stp} {us : List Un} {ms ms1 : List UM} {G G1 G2 : List Res} {k : Nat} {sd : List Hd} (h : RunS p s us ms G k ms1 sd G1) {m m' : UM} (hm : ms[k]? = some m) {h' : Hd} (hb : BeatU p s m.u m'.u h'.m) (hu : m'.un = m.un) (hok : m'.Ok p G2) (hmsg : MsgOk G2 h') (hG : ∀ r ∈ G1, r ∈ G2) :
    RunS p s us ms G (k + 1) (ms1.set k m') (sd.set k h') G2 := by
  have hk1 : ms1[k]? = some m := (h.left k (Nat.le_refl _)).trans hm; have hlt1 : k < ms1.length := (List.getElem?_eq_some_iff.1 hk1).1; have hlt2 : k < sd.length := by rw [h.len]; exact (List.getElem?_eq_some_iff.1 hm).1
  refine ⟨by simp [h.len], ?_, ?_, ?_, ?_, ?_, ?_, fun r hr => hG r (h.more r hr)⟩
  · intro j a a' b h1 h2 h3 hj
    by_cases e : j = k
    · subst e; rw [List.getElem?_set_self hlt1] at h2; rw [List.getElem?_set_self hlt2] at h3; injection h2 with h2; injection h3 with h3; subst h2; subst h3; rw [hm] at h1; injection h1 with h1; subst h1; exact hb
    · rw [List.getElem?_set_ne (Ne.symm e)] at h2 h3; exact h.done j a a' b h1 h2 h3 (by omega)
  · intro j hj; rw [List.getElem?_set_ne (by omega)]; exact h.left j (by omega)
  · intro j a hj ha; rw [List.getElem?_set_ne (by omega)] at ha; exact h.left2 j a (by omega) ha
  · rw [← h.un]; unfold unL; rw [List.map_set, hu]; apply List.ext_getElem?
    intro j
    by_cases e : j = k
    · subst e; rw [List.getElem?_set_self (by simpa using hlt1), List.getElem?_map, hk1]; rfl
    · rw [List.getElem?_set_ne (Ne.symm e)]
  · intro x hx; rcases List.mem_or_eq_of_mem_set hx with hx | rfl
    · exact (h.ok x hx).mono hG
    · exact hok
  · intro x hx; rcases List.mem_or_eq_of_mem_set hx with hx | rfl
    · exact (h.msg x hx).mono hG
    · exact hmsg
theorem RunS.start {p : Par} {s : Stp} {us : List Un} {ms : List UM} {G : List Res} (hus : unL ms = us) (hok : ∀ m ∈ ms, m.Ok p G) (h0 : MsgOk G Hd0) : RunS p s us ms G 0 ms (List.replicate us.length Hd0) G :=
  ⟨by rw [List.length_replicate, unL_len hus], fun j _ _ _ _ _ _ h => by omega, fun _ _ => rfl, fun j h _ hj => List.eq_of_mem_replicate (List.mem_of_getElem? hj), hus, hok, fun h hh => by rw [List.eq_of_mem_replicate hh]; exact h0, fun _ h => h⟩
theorem set_same {α : Type} {l : List α} {k : Nat} {x : α} (h : l[k]? = some x) : l.set k x = l := by
  obtain ⟨hk, rfl⟩ := List.getElem?_eq_some_iff.1 h; simp
theorem Rds.rowM {L G : List Res} {v : Value} {e : TypeId} {size m : Nat} {xs : List Value} (h : rowR v e size m xs ∈ L) : Rds L G v m xs := by
  obtain ⟨j, hj⟩ := List.getElem?_of_mem h; exact Rds.rowL j hj
def cutE (l : List (Int × Int)) (y : Int × Int) : List (Int × Int) := l.filter fun x => !decide (x = y)
def cutsF (l : List (Int × Int)) (ys : List (Int × Int)) : List (Int × Int) := ys.foldl (bothE cutE) l
def joinsF (us : List Un) (ub : Nat) (l : List (Int × Int)) (ys : List (Int × Int)) : List (Int × Int) := ys.foldl (bothE (joinL us ub)) l
theorem cutE_len (l : List (Int × Int)) (y : Int × Int) : (cutE l y).length ≤ l.length := List.length_filter_le _ _
theorem joinL_len (us : List Un) (ub : Nat) (l : List (Int × Int)) (y : Int × Int) : (joinL us ub l y).length ≤ l.length + 1 := by unfold joinL; split <;> simp
theorem bothE_len {eff : List (Int × Int) → Int × Int → List (Int × Int)} (h : ∀ l y, (eff l y).length ≤ l.length + 1) (l : List (Int × Int)) (y : Int × Int) : (bothE eff l y).length ≤ l.length + 2 := by
  unfold bothE; split
  · have h1 := h l (16 + y.1, 16 + y.2); have h2 := h (eff l (16 + y.1, 16 + y.2)) (16 + y.2, 16 + y.1); omega
  · omega
theorem bothE_cut_len (l : List (Int × Int)) (y : Int × Int) : (bothE cutE l y).length ≤ l.length := by
  unfold bothE; split
  · have h1 := cutE_len l (16 + y.1, 16 + y.2); have h2 := cutE_len (cutE l (16 + y.1, 16 + y.2)) (16 + y.2, 16 + y.1); omega
  · omega
theorem cutsF_len (l : List (Int × Int)) (ys : List (Int × Int)) : (cutsF l ys).length ≤ l.length := by
  unfold cutsF
  induction ys generalizing l with
  | nil => exact Nat.le_refl _
  | cons y ys ih => exact Nat.le_trans (ih _) (bothE_cut_len l y)
theorem joinsF_len (us : List Un) (ub : Nat) (l : List (Int × Int)) (ys : List (Int × Int)) : (joinsF us ub l ys).length ≤ l.length + 2 * ys.length := by
  unfold joinsF
  induction ys generalizing l with
  | nil => simp
  | cons y ys ih =>
    have h1 := ih (bothE (joinL us ub) l y); have h2 := bothE_len (joinL_len us ub) l y; simp only [List.foldl_cons, List.length_cons] at h1 ⊢; omega
theorem fold_snoc {α β : Type} (f : β → α → β) (b : β) (l : List α) (k : Nat) (h : k < l.length) : (l.take (k + 1)).foldl f b = f ((l.take k).foldl f b) l[k] := by
  rw [List.take_succ_eq_append_getElem h, List.foldl_append]; rfl
theorem cutsF_snoc (l ys : List (Int × Int)) (k : Nat) (h : k < ys.length) : cutsF l (ys.take (k + 1)) = bothE cutE (cutsF l (ys.take k)) ys[k] := fold_snoc _ _ _ _ h
theorem joinsF_snoc (us : List Un) (ub : Nat) (l ys : List (Int × Int)) (k : Nat) (h : k < ys.length) : joinsF us ub l (ys.take (k + 1)) = bothE (joinL us ub) (joinsF us ub l (ys.take k)) ys[k] := fold_snoc _ _ _ _ h
theorem linksOk_cut {us : List Un} {l : List (Int × Int)} (h : LinksOk us l) (y : Int × Int) : LinksOk us (cutE l y) := fun x hx => h x (List.mem_filter.1 hx).1
theorem linksOk_join {us : List Un} {ub : Nat} {l : List (Int × Int)} (h : LinksOk us l) (y : Int × Int) : LinksOk us (joinL us ub l y) := by
  unfold joinL; split
  · rename_i hj; intro x hx; rcases List.mem_append.1 hx with hx | hx
    · exact h x hx
    · rw [List.mem_singleton] at hx; subst hx; have h1 := hj.2.2.1; unfold unitAt at h1; split at h1
      · exact absurd rfl h1
      · exact ⟨(idxI (isU x.2) us).toNat, by omega⟩
  · exact h
theorem linksOk_both {us : List Un} {eff : List (Int × Int) → Int × Int → List (Int × Int)} (he : ∀ l y, LinksOk us l → LinksOk us (eff l y)) {l : List (Int × Int)} (h : LinksOk us l) (y : Int × Int) : LinksOk us (bothE eff l y) := by
  unfold bothE; split
  · exact he _ _ (he _ _ h)
  · exact h
theorem linksOk_fold {us : List Un} {eff : List (Int × Int) → Int × Int → List (Int × Int)} (he : ∀ l y, LinksOk us l → LinksOk us (eff l y)) {l : List (Int × Int)} (h : LinksOk us l) (ys : List (Int × Int)) : LinksOk us (ys.foldl (bothE eff) l) := by
  induction ys generalizing l with
  | nil => exact h
  | cons y ys ih => exact ih (linksOk_both he h y)
def sendOne (us : List Un) (s : Stp) (links : List (Int × Int)) (sd : List Hd) (ms : List UM) (j : Nat) : List UM := match us[j]?, sd[j]? with
  | some u, some h => if u.who ∈ s.off then ms else sendM us u.who h.m s ms links
  | _, _ => ms
def sendAll (us : List Un) (s : Stp) (links : List (Int × Int)) (sd : List Hd) (ms : List UM) (k : Nat) : List UM := (List.range k).foldl (sendOne us s links sd) ms
theorem sendAll_succ (us : List Un) (s : Stp) (links : List (Int × Int)) (sd : List Hd) (ms : List UM) (k : Nat) : sendAll us s links sd ms (k + 1) = sendOne us s links sd (sendAll us s links sd ms k) k := by
  unfold sendAll; rw [List.range_succ, List.foldl_append]; rfl
theorem sendAll_map {β : Type} (g : UM → β) (h : ∀ m q, g (m.setQs q) = g m) (us : List Un) (s : Stp) (links : List (Int × Int)) (sd : List Hd) (ms : List UM) (k : Nat) : (sendAll us s links sd ms k).map g = ms.map g := by
  induction k with
  | zero => rfl
  | succ k ih =>
    rw [sendAll_succ, ← ih]; unfold sendOne; split
    · split
      · rfl
      · exact sendF_map g h _ _ _ _ _ _
    · rfl
end Go.Proofs.YtaanjifekgfemaaGreat.Cl
end
section
namespace Go.Proofs.YtaanjifekgfemaaGreat.Cl
open Tryz
open Go.RowKit Go.Proofs.YtaanjifekgfemaaGreat.K Go.Proofs.YtaanjifekgfemaaGreat.W Go.Proofs.YtaanjifekgfemaaGreat.LN
attribute [local irreducible] bound clip adds sub neg mag mulp mul maxs
theorem far_not {x : Int} (h : -2305843009213693952 ≤ x ∧ x ≤ 2305843009213693952) : ¬ Far x := by unfold Far; omega
theorem pulse_in (p : Par) (t : Int) : -2305843009213693952 ≤ pulseNo p t ∧ pulseNo p t ≤ 2305843009213693952 := by
  unfold pulseNo; have h := clip_in t; have h1 : (1 : Int) ≤ max (clip p.Pulse) 1 := by omega
  refine ⟨?_, ?_⟩
  · rw [Int.le_ediv_iff_mul_le (by omega)]; have h2 : 2305843009213693952 * 1 ≤ 2305843009213693952 * max (clip p.Pulse) 1 := Int.mul_le_mul_of_nonneg_left h1 (by decide); omega
  · rw [← Int.lt_add_one_iff, Int.ediv_lt_iff_lt_mul (by omega)]; have h2 : (2305843009213693952 + 1) * 1 ≤ (2305843009213693952 + 1) * max (clip p.Pulse) 1 := Int.mul_le_mul_of_nonneg_left h1 (by decide); omega
theorem sayM_ok {p : Par} (hp : p.Ok) {s : Stt} (hs : s.Fit p) {kind me : Int} (ref : Bool) {seen : Sp} (hk : 1 ≤ kind ∧ kind ≤ 2) (hm : 0 ≤ me ∧ me ≤ 47) (he : (-2305843009213693952 ≤ seen.lo ∧ seen.lo ≤ 2305843009213693952) ∧ -2305843009213693952 ≤ seen.hi ∧ seen.hi ≤ 2305843009213693952) : (sayM p s kind me ref seen).Ok := by
  have hD := hp.D; have h1 := hs.span; have h2 := hs.held; have h3 := hs.hops; have h4 : (stampS s).sta.Right := (stampS_fit hs).right; have h5 := (right_iff (stampS s).st (stampS s).sn).1 h4; refine ⟨⟨hk, hm, ⟨far_not ⟨h1.1, Int.le_trans h1.2.1 h1.2.2⟩, far_not ⟨Int.le_trans h1.1 h1.2.1, h1.2.2⟩, far_not he.1, far_not he.2, far_not ?_, far_not ⟨h5.1, h5.2.1⟩⟩, h2, ?_, h5.2.2⟩, hs.tab.1⟩
  · show -2305843009213693952 ≤ (if healthOf p s = 0 then 0 else pulseNo p s.time) ∧ (if healthOf p s = 0 then 0 else pulseNo p s.time) ≤ 2305843009213693952; split
    · decide
    · exact pulse_in _ _
  · show 0 ≤ s.hops ∧ s.hops ≤ 17; omega
theorem ok_in {m : M} (h : m.Ok) : MIn m := by
  obtain ⟨⟨h1, h2, ⟨h3, h4, h5, h6, h7, h8⟩, h9, h10, h11⟩, ht⟩ := h; have hf := tabOk_fit ht; unfold Far at h3 h4 h5 h6 h7 h8; refine ⟨by have := hf.1; omega, hf.2, ?_⟩; intro x hx; simp only [List.mem_cons, List.not_mem_nil, or_false] at hx; unfold In64; rcases hx with rfl | rfl | rfl | rfl | rfl | rfl | rfl | rfl | rfl | rfl | rfl <;> omega
theorem m0_in : MIn M0 := by
  refine ⟨by decide, (fun x hx => by cases hx), fun x hx => ?_⟩; unfold In64; simp [M0] at hx; omega
theorem seenR_in (p : Par) (i : Inp) : (-2305843009213693952 ≤ (seenR p i).lo ∧ (seenR p i).lo ≤ 2305843009213693952) ∧ -2305843009213693952 ≤ (seenR p i).hi ∧ (seenR p i).hi ≤ 2305843009213693952 := by
  unfold seenR seen; split
  · split
    · exact ⟨sub_in _ _, adds_in _⟩
    · exact ⟨by decide, by decide⟩
  · exact ⟨by decide, by decide⟩
theorem hearAll_fit {p : Par} {s : Stt} (h : s.Fit p) (l : List Hd) : (hearAll p s l).Fit p := by
  unfold hearAll
  induction l generalizing s with
  | nil => exact h
  | cons x l ih =>
    refine ih ?_; unfold hearStep; split
    · exact hearS_fit h _
    · exact h
theorem gateBeat_fit {p : Par} (hp : p.Ok) {s : Stt} (h : s.Fit p) (me : Int) (i : Inp) : (gateBeat p me s i).Fit p := stepS_fit hp h _ _
theorem nodeBeat_fit {p : Par} (hp : p.Ok) {s : Stt} (h : s.Fit p) (l : List Hd) (ticks : Int) (tab : List (Int × Int)) : (nodeBeat p l s ticks tab).Fit p := hearAll_fit (stepS_fit hp h _ _) l
theorem gateMsg_ok {p : Par} (hp : p.Ok) {s : Stt} (h : s.Fit p) {me : Int} (hm : 0 ≤ me ∧ me ≤ 47) (i : Inp) : (gateMsg p me s i).Ok := sayM_ok hp (gateBeat_fit hp h me i) _ (by decide) hm (seenR_in p i)
theorem nodeMsg_ok {p : Par} (hp : p.Ok) {s : Stt} (h : s.Fit p) {me : Int} (hm : 0 ≤ me ∧ me ≤ 47) (l : List Hd) (ticks : Int) (tab : List (Int × Int)) : (nodeMsg p me l s ticks tab).Ok := sayM_ok hp (nodeBeat_fit hp h l ticks tab) _ (by decide) hm (by decide)
theorem input_un (wb : Nat) (p : Par) (time : Int) (ub : Nat) (us : List Un) (uc : Nat) (LA : Option Addr) (nl lc : Nat) (stp : Stp) (ui : Nat) (m : UM) (hum : us[ui]? = some m.un) (hqs : ∀ q ∈ m.u.qs, ∀ x ∈ q, x.1.size ≤ 4096) (w0 w : World) (F0 : List Nat) (L G : List Res) (hst : St w0 F0 w (cellsR wb (wC p (time) (.slice (some ⟨ub, 0, none⟩) us.length uc) (.slice LA nl lc)) 86 :: m.lres :: L) G) (hru : Rds L G (.slice (some ⟨ub, 0, none⟩) us.length uc) us.length (flat unC us)) (hok : stp.Ok G) :
    Calls Tryz.prog 31 #[.pointer (some ⟨wb, 0, none⟩), .pointer (some ⟨ub, ui * 4, none⟩), .agg (stpC stp).toArray] w fun e w' => ∃ (i : Inp) (G' : List Res), e = .returned (.agg (inpC i).toArray) ∧ InpOf p stp m.u.who m.u.qs i ∧ (∀ r ∈ G, r ∈ G') ∧ Rds [] G' (.slice i.HA i.heard.length i.hcap) i.heard.length (flat hdC i.heard) ∧ HdFit G' i.heard ∧ (TabFit i.tab ∧ Rds [] G' (.slice i.TA (i.tab).length i.tcap) (i.tab).length (lcs (i.tab))) ∧ i.heard.length ≤ 1000000 ∧ St w0 F0 w' (cellsR wb (wC p (time) (.slice (some ⟨ub, 0, none⟩) us.length uc) (.slice LA nl lc)) 86 :: (m.setQs qs0).lres :: L) G' := by
  obtain ⟨hlt, he⟩ := List.getElem?_eq_some_iff.1 hum; have hlr : QR us[ui].lb 0 m.u.qs = m.lres := by rw [he]; rfl
  have hlr2 : QR us[ui].lb 0 qs0 = (m.setQs qs0).lres := by rw [he]; rfl
  have hwho : us[ui].who = m.u.who := by rw [he]; rfl
  refine (input_any wb p time ub us uc LA nl lc stp ui hlt m.u.qs hqs w0 w F0 L G (by rw [hlr]; exact hst) hru hok).mono ?_; rintro e w' ⟨i, G', h1, h2, h3, h4, h5, h6, h7, h8⟩; rw [hlr2] at h8; rw [hwho] at h2 h6; have hst2 : St w0 F0 w (m.lres :: L) G := hst.dr 1
  have hrn : Rds [] G' (.slice none 0 0) 0 [] := by
    obtain ⟨r, hr, _⟩ := hok.ticks; rcases hr with hr | hr
    · cases hr
    · exact ⟨r, .inr (h3 r hr), fun w _ => Sl.nil w⟩
  have ht := inpR_tab p m.u.who stp.ticks stp.reads (fun r hr => ⟨(hok.tabs r hr).1, (hok.tabs r hr).2.moreG h3⟩) hrn; rw [← h2.tab, ← h6.1, ← h6.2] at ht; exact ⟨i, G', h1, h2, h3, h4, h5, ht, h7, h8⟩
def UM.fn (m : UM) : FuncId := match m.gate with | true => 116 | false => 173
theorem ti_gate : (Tryz.prog.info? 150).map (fun ti => (ti.methods.find? (·.name == "Beat")).map (fun m => (m.path.toList, m.func))) = some (some ([], some (116, true))) := by kernel_rfl
theorem ti_node : (Tryz.prog.info? 154).map (fun ti => (ti.methods.find? (·.name == "Beat")).map (fun m => (m.path.toList, m.func))) = some (some ([], some (173, true))) := by kernel_rfl
theorem meth_un (m : UM) : MethIs Tryz.prog m.un.bt "Beat" m.fn := by
  unfold UM.un UM.fn; cases m.gate
  · obtain ⟨ti, h1, h2⟩ := Option.map_eq_some_iff.1 ti_node; exact methIs h1 underlying154 h2
  · obtain ⟨ti, h1, h2⟩ := Option.map_eq_some_iff.1 ti_gate; exact methIs h1 underlying150 h2
theorem cf_un (m : UM) : ∀ args w, (callFunc m.fn args).run Tryz.prog w = .ok (.enter m.fn args) w := by
  unfold UM.fn; cases m.gate
  · intro args w; simp [go_sem]
  · intro args w; simp [go_sem]
theorem beat_un (tbl : List Int) (htl : tbl.length = 20) (p : Par) (hp : p.Ok) (m : UM) (hw : 0 ≤ m.u.who ∧ m.u.who ≤ 47) (stp : Stp) (i : Inp) (w0 w : World) (F0 : List Nat) (L G : List Res) (hst : St w0 F0 w (m.fres p ++ L) G) (hpw : powR tbl ∈ G) (hok : m.Ok p G) (hasc : Asc i.heard) (hl : i.heard.length ≤ 1000000) (hrI : Rds [] G (.slice i.TA (i.tab).length i.tcap) (i.tab).length (lcs (i.tab))) (hiT : TabFit i.tab) (hrH : Rds [] G (.slice i.HA i.heard.length i.hcap) i.heard.length (flat hdC i.heard)) (hfit : HdFit G i.heard) :
    Calls Tryz.prog m.fn #[.pointer (some ⟨m.fb, 0, none⟩), .agg (inpC i).toArray] w fun e w' => ∃ (m' : UM) (h' : Hd) (G' : List Res), e = .returned (.agg (mhC h').toArray) ∧ BeatC p m.u i m'.u h'.m ∧ m'.u.who = m.u.who ∧ m'.u.qs = m.u.qs ∧ m'.un = m.un ∧ m'.Ok p G' ∧ MsgOk G' h' ∧ (∀ r ∈ G, r ∈ G') ∧ St w0 F0 w' (m'.fres p ++ L) G' := by
  by_cases hg : m.u.who < 16
  · have hgt : m.gate = true := decide_eq_true hg; have hfn : m.fn = 116 := by unfold UM.fn; rw [hgt]
    have hf : m.fres p = [gateR p m] := by unfold UM.fres; rw [hgt]
    rw [hf] at hst; rw [hfn]; refine (gbeat_any m.fb 153 p m.u.who m.u.s m.A m.cap i (goodTab_fit hok.fit.tab) hiT hl hasc w0 w F0 L G hst hok.tab hrI hrH).mono ?_; rintro e w' ⟨A', c', A2, c2, G', h1, h2, h3, h4, h5⟩
    have hfr : ({ m with u := { m.u with s := stampS (gateBeat p m.u.who m.u.s i) }, A := A', cap := c' } : UM).fres p = [gateR p { m with u := { m.u with s := stampS (gateBeat p m.u.who m.u.s i) }, A := A', cap := c' }] := by
      unfold UM.fres; rw [show ({ m with u := { m.u with s := stampS (gateBeat p m.u.who m.u.s i) }, A := A', cap := c' } : UM).gate = true from hgt]
    exact ⟨{ m with u := { m.u with s := stampS (gateBeat p m.u.who m.u.s i) }, A := A', cap := c' }, ⟨gateMsg p m.u.who m.u.s i, A2, c2, 0⟩, G', h1, .inl ⟨hg, rfl, rfl, rfl⟩, rfl, rfl, rfl,
      ⟨stampS_fit (gateBeat_fit hp hok.fit _ _), h3, hok.near, hok.qs⟩, ⟨ok_in (gateMsg_ok hp hok.fit hw i), h4⟩, h2, by rw [hfr]; exact h5⟩
  · have hgt : m.gate = false := decide_eq_false hg; have hfn : m.fn = 173 := by unfold UM.fn; rw [hgt]
    have hf : m.fres p = [nodeR p m, cellsR m.tb [.map (some m.mb)] 204, mapR ikE nrV m.mb m.u.es m.clock] := by unfold UM.fres; rw [hgt]
    rw [hf] at hst; rw [hfn]; refine (nbeat_any tbl htl m.fb 158 p hp m.u.s m.A m.cap m.u.who m.tb m.mb m.u.es m.clock i (goodTab_fit hok.fit.tab) hok.near hl hasc w0 w F0 L G hst hpw hok.tab hrH hfit).mono ?_; rintro e w' ⟨tab, A', c', A2, c2, G', h1, h2, h3, h4, h5, h6⟩; have hkn : NearFit (knownK m.u.who m.u.es m.clock i.heard).es := hok.near.known (k := ⟨m.u.es, m.clock, []⟩) m.u.who i.heard
    have hfr : ({ m with u := { m.u with s := stampS (nodeBeat p (knownK m.u.who m.u.es m.clock i.heard).out m.u.s i.ticks tab), es := tickT 2 (knownK m.u.who m.u.es m.clock i.heard).es }, A := A', cap := c', clock := (knownK m.u.who m.u.es m.clock i.heard).clock } : UM).fres p = [nodeR p { m with u := { m.u with s := stampS (nodeBeat p (knownK m.u.who m.u.es m.clock i.heard).out m.u.s i.ticks tab), es := tickT 2 (knownK m.u.who m.u.es m.clock i.heard).es }, A := A', cap := c', clock := (knownK m.u.who m.u.es m.clock i.heard).clock }, cellsR m.tb [.map (some m.mb)] 204, mapR ikE nrV m.mb (tickT 2 (knownK m.u.who m.u.es m.clock i.heard).es) (knownK m.u.who m.u.es m.clock i.heard).clock] := by
      unfold UM.fres; rw [show ({ m with u := { m.u with s := stampS (nodeBeat p (knownK m.u.who m.u.es m.clock i.heard).out m.u.s i.ticks tab), es := tickT 2 (knownK m.u.who m.u.es m.clock i.heard).es }, A := A', cap := c', clock := (knownK m.u.who m.u.es m.clock i.heard).clock } : UM).gate = false from hgt]
    exact ⟨{ m with u := { m.u with s := stampS (nodeBeat p (knownK m.u.who m.u.es m.clock i.heard).out m.u.s i.ticks tab), es := tickT 2 (knownK m.u.who m.u.es m.clock i.heard).es }, A := A', cap := c', clock := (knownK m.u.who m.u.es m.clock i.heard).clock }, ⟨nodeMsg p m.u.who (knownK m.u.who m.u.es m.clock i.heard).out m.u.s i.ticks tab, A2, c2, 0⟩, G', h1, .inr ⟨hg, m.clock, tab, h2, rfl, rfl, rfl⟩, rfl, rfl, rfl,
      ⟨stampS_fit (nodeBeat_fit hp hok.fit _ _ _), h4, hkn.tick 2, hok.qs⟩, ⟨ok_in (nodeMsg_ok hp hok.fit hw _ _ _), h5⟩, h3, by rw [hfr]; exact h6⟩
theorem fa40_5 : FA 40 5 5 := fun _ _ => by simp [Instr.fieldAt, Instr.sureAddr, go_sem]
theorem fa40_6 : FA 40 6 6 := fun _ _ => by simp [Instr.fieldAt, Instr.sureAddr, go_sem]
theorem fa40_7 : FA 40 7 7 := fun _ _ => by simp [Instr.fieldAt, Instr.sureAddr, go_sem]
theorem cf28 : CF 28 := fun _ _ => by simp [go_sem]
theorem cf31 : CF 31 := fun _ _ => by simp [go_sem]
theorem cf32 : CF 32 := fun _ _ => by simp [go_sem]
theorem cf33 : CF 33 := fun _ _ => by simp [go_sem]
set_option maxHeartbeats 8000000 in
theorem wbeat_any (tbl : List Int) (htl : tbl.length = 20) (wb : Nat) (p : Par) (time : Int) (ub : Nat) (us : List Un) (uc : Nat) (LA : Option Addr) (lc : Nat) (hp : p.Ok) (links : List (Int × Int)) (stp : Stp) (hll : links.length + 2 * stp.join.length ≤ 900000) (hul : us.length ≤ 48) (ms : List UM) (hus : unL ms = us) (hlk : LinksOk us links) (hwho : ∀ m ∈ ms, 0 ≤ m.u.who ∧ m.u.who ≤ 47) (w0 w : World) (F0 : List Nat) (L G : List Res) (hst : St w0 F0 w (cellsR wb (wC p (time) (.slice (some ⟨ub, 0, none⟩) us.length uc) (.slice LA (links).length lc)) 86 :: rowR (.slice (some ⟨ub, 0, none⟩) us.length uc) 96 4 us.length (flat unC (us)) :: rowR (.slice LA (links).length lc) 77 2 (links).length (flat pairC (links)) :: ((ms).map UM.lres ++ (((ms).map (UM.fres p)).flatten ++ L))) G) (hms : ∀ m ∈ ms, m.Ok p G) (hok : stp.Ok G) (hpw : powR tbl ∈ G) :
    Calls Tryz.prog 9 #[.pointer (some ⟨wb, 0, none⟩), .agg (stpC stp).toArray] w fun e w' => ∃ (ms1 : List UM) (sd : List Hd) (G' : List Res) (A' : Option Addr) (c' : Nat), e = .returned (.int .i64 0) ∧ RunS p stp us ms G us.length ms1 sd G' ∧ St w0 F0 w' (cellsR wb (wC p ((adds [time, p.Beat])) (.slice (some ⟨ub, 0, none⟩) us.length uc) (.slice A' ((joinsF us ub (cutsF links stp.cut) stp.join)).length c')) 86 :: rowR (.slice (some ⟨ub, 0, none⟩) us.length uc) 96 4 us.length (flat unC (us)) :: rowR (.slice A' ((joinsF us ub (cutsF links stp.cut) stp.join)).length c') 77 2 ((joinsF us ub (cutsF links stp.cut) stp.join)).length (flat pairC ((joinsF us ub (cutsF links stp.cut) stp.join))) :: ((sendAll us stp (joinsF us ub (cutsF links stp.cut) stp.join) sd ms1 us.length).map UM.lres ++ (((sendAll us stp (joinsF us ub (cutsF links stp.cut) stp.join) sd ms1 us.length).map (UM.fres p)).flatten ++ L))) G' := by
  obtain ⟨hl0, hl1, hl2, hl3, hl4, hl5, hl6, hl7⟩ := hok.lens; have hcl := cutsF_len links stp.cut; have hjl := joinsF_len us ub (cutsF links stp.cut) stp.join; have hlks : LinksOk us (joinsF us ub (cutsF links stp.cut) stp.join) := linksOk_fold (fun l y h => linksOk_join h y) (linksOk_fold (fun l y h => linksOk_cut h y) hlk _) _; have hrn : Rds [] G (.slice none 0 0) 0 [] := ⟨powR tbl, .inr hpw, fun w _ => Sl.nil w⟩; refine W.func func9 rfl ntmps9 rfl<|W.sr rfl<|Ops.ww rfl (X.boxA hst rfl fun p3 w3 hst => hst.y rfl (Y.assignI rfl)<|Ops.done rfl<|W.seq rfl<|W.sr rfl<|hst.y rfl (Y.moveP rfl)<|hst.y rfl (Y.isNil underlying45 rfl rfl)<|Ops.done rfl<|W.condF rfl rfl<|W.skip rfl<|W.seq rfl<|W.drawn rfl (by kernel_rfl) (Ctx _ _ (_) (_)) [14] (.op 0 0 (.op 1 0 (.op 2 0 (.op 3 0 (.op 4 0 (.op 5 0 (.op 6 0 (.op 7 0 (.op 8 0 (.op 9 0 (.op 10 1 (.op 11 1 (.op 12 0 (.op 13 0 (.op 14 1 .nil))))))))))))))) rfl (by kernel_rfl) hst.drew.ctx<|?_); replace hst := hst.drew; generalize World.drew _ = wd at hst ⊢; refine hst.z rfl (Y.moveP rfl)<|hst.z rfl (Y.moveP rfl)<|hst.z rfl (Y.nilCheck rfl)<|hst.z rfl (Y.fieldAddr fa86_1 rfl)<|hst.z rfl (Y.load 1 isAgg3 rfl rfl rfl)<|hst.z rfl (Y.moveP rfl)<|hst.z rfl (Y.nilCheck rfl)<|hst.z rfl (Y.fieldAddr fa86_0 rfl)<|hst.z rfl (Y.fieldAddr fa23_3 rfl)<|hst.z rfl (Y.load 1 isAgg3 rfl rfl rfl)<|Drw.ww rfl (X.lits hst underlying24 sizeOf3 zeroValue3 (by rfl) (by rfl) (by rfl) [.int _ _, .int _ _] (by rfl) (by rfl) fun p27 w27 hst => ⟨(hst.cx 1), ?_⟩); refine Drw.ww rfl (X.ret cf27 (adds_any [time, p.Beat] _ _ (by simp) _ _ _ _ _ hst (Rds.ofCells 0 rfl 2 2)) rfl fun w28 hst => ⟨(hst.cx 1), ?_⟩); refine Drw.q rfl (hst.cx 1) (Y.nilCheck rfl)<|Drw.q rfl (hst.cx 1) (Y.fieldAddr fa86_1 rfl)<|Drw.z rfl rfl rfl rfl (X.storeV hst 2 (.int _ _) sizeOf3 rfl rfl rfl rfl (lZ rfl) rfl rfl fun w3_14 hst => Drw.done<|W.seq rfl<|W.sr rfl<|hst.y rfl (Y.fieldAddr fa40_6 rfl)<|hst.y rfl (Y.load 1 isAgg25 rfl rfl rfl)<|hst.y rfl (Y.lenS underlying25 rfl)<|hst.y rfl (Y.moveI rfl)<|Ops.done rfl<|W.block rfl<|?_); refine W.loop (γ := Nat × Option Addr × Nat) [(0, .pointer _), (3, .pointer _), (32, .slice _ _ _), (33, .int _ _)] (fun x => [(34, .int .i64 (x.1 : Int))]) (fun x w => x.1 ≤ stp.cut.length ∧ St w0 F0 w (cellsR p3 (stpC stp) 40 :: cellsR wb (wC p ((adds [time, p.Beat])) (.slice (some ⟨ub, 0, none⟩) us.length uc) (.slice x.2.1 ((cutsF links (stp.cut.take x.1))).length x.2.2)) 86 :: rowR (.slice (some ⟨ub, 0, none⟩) us.length uc) 96 4 us.length (flat unC (us)) :: rowR (.slice x.2.1 ((cutsF links (stp.cut.take x.1))).length x.2.2) 77 2 ((cutsF links (stp.cut.take x.1))).length (flat pairC ((cutsF links (stp.cut.take x.1)))) :: ((ms).map UM.lres ++ (((ms).map (UM.fres p)).flatten ++ L))) G) (fun x => stp.cut.length - x.1) ((0, LA, lc)) rfl ⟨rfl, rfl, rfl, rfl, trivial⟩ ?_ ?_ ?_
  · exact ⟨rfl, trivial⟩
  · exact ⟨by omega, hst.dr 1⟩
  · clear hst; rintro ⟨k, A5, c5⟩ j w5 ⟨hk, hst⟩; dsimp only at hk; refine W.sr rfl<|hst.yb rfl (Y.lss rfl rfl) (fun b35 hb35 => Ops.done rfl<|W.seq rfl<|?_); cases b35
    · replace hb35 := dF hb35; refine W.condF rfl rfl<|W.exit rfl<|W.seq rfl<|W.seq rfl<|?_; obtain rfl : k = stp.cut.length := by omega
      rw [show stp.cut.take stp.cut.length = stp.cut from List.take_length] at hst; refine W.region rfl<|hst.y rfl (Y.fieldAddr fa40_7 rfl)<|hst.y rfl (Y.load 0 isAgg25 rfl rfl rfl)<|hst.y rfl (Y.lenS underlying25 rfl)<|hst.y rfl (Y.moveI rfl)<|Ops.done rfl<|W.block rfl<|?_; refine W.loop (γ := Nat × Option Addr × Nat) [(0, .pointer _), (3, .pointer _), (43, .slice _ _ _), (44, .int _ _)] (fun x => [(45, .int .i64 (x.1 : Int))]) (fun x w => x.1 ≤ stp.join.length ∧ St w0 F0 w (cellsR p3 (stpC stp) 40 :: cellsR wb (wC p ((adds [time, p.Beat])) (.slice (some ⟨ub, 0, none⟩) us.length uc) (.slice x.2.1 ((joinsF us ub (cutsF links stp.cut) (stp.join.take x.1))).length x.2.2)) 86 :: rowR (.slice (some ⟨ub, 0, none⟩) us.length uc) 96 4 us.length (flat unC (us)) :: rowR (.slice x.2.1 ((joinsF us ub (cutsF links stp.cut) (stp.join.take x.1))).length x.2.2) 77 2 ((joinsF us ub (cutsF links stp.cut) (stp.join.take x.1))).length (flat pairC ((joinsF us ub (cutsF links stp.cut) (stp.join.take x.1)))) :: ((ms).map UM.lres ++ (((ms).map (UM.fres p)).flatten ++ L))) G) (fun x => stp.join.length - x.1) ((0, A5, c5)) rfl ⟨rfl, rfl, rfl, rfl, trivial⟩ ?_ ?_ ?_
      · exact ⟨rfl, trivial⟩
      · exact ⟨by omega, hst⟩
      · clear hst; rintro ⟨k, A5, c5⟩ j w10 ⟨hk, hst⟩; dsimp only at hk; refine W.sr rfl<|hst.yb rfl (Y.lss rfl rfl) (fun b46 hb46 => Ops.done rfl<|W.seq rfl<|?_); cases b46
        · replace hb46 := dF hb46; refine W.condF rfl rfl<|W.exit rfl<|W.seq rfl<|?_; obtain rfl : k = stp.join.length := by omega
          rw [show stp.join.take stp.join.length = stp.join from List.take_length] at hst; refine W.region rfl<|hst.y rfl (Y.moveP rfl)<|hst.y rfl (Y.nilCheck rfl)<|hst.y rfl (Y.fieldAddr fa86_2 rfl)<|hst.y rfl (Y.load 1 isAgg84 rfl rfl rfl)<|hst.y rfl (Y.lenS underlying84 rfl)<|Ops.ww rfl (X.makeS hst underlying90 mhC Hd0 info103 mhC_len rfl rfl rfl (by omega) (by omega) fun p58 w58 hst => hst.y rfl (Y.assignS rfl)<|Ops.done rfl<|W.seq rfl<|W.sr rfl<|hst.y rfl (Y.moveP rfl)<|hst.y rfl (Y.nilCheck rfl)<|hst.y rfl (Y.fieldAddr fa86_2 rfl)<|hst.y rfl (Y.load 2 isAgg84 rfl rfl rfl)<|hst.y rfl (Y.lenS underlying84 rfl)<|hst.y rfl (Y.moveI rfl)<|Ops.done rfl<|W.block rfl<|?_); refine W.loop (γ := Nat × List UM × List Hd × List Res) [(0, .pointer _), (3, .pointer _), (9, .slice _ _ _), (63, .int _ _)] (fun x => [(64, .int .i64 (x.1 : Int))]) (fun x w => (x.1 ≤ us.length ∧ RunS p stp us ms G x.1 x.2.1 x.2.2.1 x.2.2.2) ∧ St w0 F0 w (cellsR p58 (flat mhC (x.2.2.1)) 103 :: cellsR p3 (stpC stp) 40 :: cellsR wb (wC p ((adds [time, p.Beat])) (.slice (some ⟨ub, 0, none⟩) us.length uc) (.slice A5 ((joinsF us ub (cutsF links stp.cut) stp.join)).length c5)) 86 :: rowR (.slice (some ⟨ub, 0, none⟩) us.length uc) 96 4 us.length (flat unC (us)) :: rowR (.slice A5 ((joinsF us ub (cutsF links stp.cut) stp.join)).length c5) 77 2 ((joinsF us ub (cutsF links stp.cut) stp.join)).length (flat pairC ((joinsF us ub (cutsF links stp.cut) stp.join))) :: ((x.2.1).map UM.lres ++ (((x.2.1).map (UM.fres p)).flatten ++ L))) x.2.2.2) (fun x => us.length - x.1) ((0, ms, List.replicate us.length Hd0, G)) rfl ⟨rfl, rfl, rfl, rfl, trivial⟩ ?_ ?_ ?_
          · exact ⟨rfl, trivial⟩
          · exact ⟨⟨Nat.zero_le _, RunS.start hus hms ⟨m0_in, hrn⟩⟩, hst⟩
          · clear hst; rintro ⟨k, ms1, sd, G1⟩ j w16 ⟨⟨hk, hrun⟩, hst⟩; dsimp only at hk hrun; refine W.sr rfl<|hst.yb rfl (Y.lss rfl rfl) (fun b65 hb65 => Ops.done rfl<|W.seq rfl<|?_); cases b65
            · replace hb65 := dF hb65; refine W.condF rfl rfl<|W.exit rfl<|W.seq rfl<|W.seq rfl<|?_; obtain rfl : k = us.length := by omega
              have hok1 := hok.mono hrun.more; have hsl : sd.length = us.length := by rw [hrun.len, unL_len hus]
              refine W.region rfl<|hst.y rfl (Y.moveP rfl)<|hst.y rfl (Y.nilCheck rfl)<|hst.y rfl (Y.fieldAddr fa86_2 rfl)<|hst.y rfl (Y.load 2 isAgg84 rfl rfl rfl)<|hst.y rfl (Y.lenS underlying84 rfl)<|hst.y rfl (Y.moveI rfl)<|Ops.done rfl<|W.block rfl<|?_; refine W.loop (γ := Nat) [(0, .pointer _), (3, .pointer _), (9, .slice _ _ _), (98, .slice _ _ _), (99, .int _ _)] (fun k => [(100, .int .i64 (k : Int))]) (fun k w => k ≤ us.length ∧ St w0 F0 w (cellsR p58 (flat mhC (sd)) 103 :: cellsR p3 (stpC stp) 40 :: cellsR wb (wC p ((adds [time, p.Beat])) (.slice (some ⟨ub, 0, none⟩) us.length uc) (.slice A5 ((joinsF us ub (cutsF links stp.cut) stp.join)).length c5)) 86 :: rowR (.slice (some ⟨ub, 0, none⟩) us.length uc) 96 4 us.length (flat unC (us)) :: rowR (.slice A5 ((joinsF us ub (cutsF links stp.cut) stp.join)).length c5) 77 2 ((joinsF us ub (cutsF links stp.cut) stp.join)).length (flat pairC ((joinsF us ub (cutsF links stp.cut) stp.join))) :: (((sendAll us stp (joinsF us ub (cutsF links stp.cut) stp.join) sd ms1 k)).map UM.lres ++ (((ms1).map (UM.fres p)).flatten ++ L))) G1) (fun k => us.length - k) (0) rfl ⟨rfl, rfl, rfl, rfl, rfl, trivial⟩ ?_ ?_ ?_
              · exact ⟨rfl, trivial⟩
              · exact ⟨by omega, hst⟩
              · clear hst; rintro k j w24 ⟨hk2, hst⟩; refine W.sr rfl<|hst.yb rfl (Y.lss rfl rfl) (fun b101 hb101 => Ops.done rfl<|W.seq rfl<|?_); cases b101
                · replace hb101 := dF hb101; refine W.condF rfl rfl<|W.exit rfl<|W.sr rfl<|hst.y rfl (Y.assignI rfl)<|Ops.done rfl<|W.ret rfl<|⟨_, Rslt.one results9 rfl, ?_⟩; obtain rfl : k = us.length := by omega
                  have hst2 := (hst.dr 2); have e4 : ((sendAll us stp (joinsF us ub (cutsF links stp.cut) stp.join) sd ms1 us.length)).map (UM.fres p) = ms1.map (UM.fres p) := sendAll_map _ (setQs_fres p) _ _ _ _ _ _; rw [← e4] at hst2; exact ⟨ms1, sd, G1, A5, c5, rfl, hrun, hst2⟩
                · replace hb101 := dT hb101; refine W.condT rfl rfl<|W.skip rfl<|W.seq rfl<|W.block rfl<|W.seq rfl<|?_; have hlt1 : k < us.length := by omega
                  have hlt2 : k < sd.length := by omega
                  have hmk2 := hrun.msg _ (List.getElem_mem hlt2); have hus2 : unL (sendAll us stp (joinsF us ub (cutsF links stp.cut) stp.join) sd ms1 k) = us := (sendAll_map UM.un setQs_un _ _ _ _ _ _).trans hrun.un; have hso : us[k]? = some us[k] ∧ sd[k]? = some sd[k] := ⟨List.getElem?_eq_getElem hlt1, List.getElem?_eq_getElem hlt2⟩; refine W.region rfl<|hst.y rfl (Y.moveI rfl)<|hst.y rfl (Y.indexAddr underlying84 sizeOf96 rfl rfl (by simp) (by omega))<|?_; refine hst.y rfl (Y.loadSlA isAgg96 sizeOf96 rfl (Rds.rowL 3 rfl) (flat_atI unC_len us k hlt1) (unC_len _))<|Ops.ww rfl (X.allocA hst zeroValue96 fun p14 w14 hst => hst.y rfl (Y.assignI rfl)<|Ops.ww rfl (X.storeS hst 0 sizeOf96 rfl rfl rfl rfl rfl (lZ rfl) rfl rfl fun w25_5 hst => Ops.ds rfl rfl<|hst.y rfl (Y.fieldAddr fa40_5 rfl)<|hst.y rfl (Y.load 2 isAgg24 rfl rfl rfl)<|hst.y rfl (Y.fieldAddr fa96_0 rfl)<|hst.y rfl (Y.load 0 isAgg3 rfl rfl rfl)<|Ops.ww rfl (X.retB cf32 (contains_int stp.off (by omega) _ _ us[k].who _ _ _ _ _ hst hok1.off.hd) rfl fun b109 w109 hb109 hst => ?_))); cases b109
                  · replace hb109 := dF hb109; refine hst.y rfl (Y.not rfl)<|Ops.done rfl<|W.condT rfl rfl<|W.drawn rfl (by kernel_rfl) (Ctx _ _ (_) (_)) [8] (.op 0 0 (.op 1 0 (.op 2 0 (.op 3 0 (.op 4 0 (.op 5 0 (.op 6 0 (.op 7 0 (.op 8 1 .nil))))))))) rfl (by kernel_rfl) hst.drew.ctx<|?_; replace hst := hst.drew; generalize World.drew _ = wd at hst ⊢; refine hst.z rfl (Y.moveP rfl)<|hst.z rfl (Y.fieldAddr fa96_0 rfl)<|hst.z rfl (Y.load 0 isAgg3 rfl rfl rfl)<|hst.z rfl (Y.moveS rfl)<|hst.z rfl (Y.moveI rfl)<|hst.z rfl (Y.indexAddr underlying90 sizeOf103 rfl rfl (by simp) (by omega))<|?_; refine hst.z rfl (Y.loadSlA isAgg103 sizeOf103 rfl (Rds.ofCells 1 rfl _ _) (flat_atI mhC_len sd k hlt2) (mhC_len _))<|hst.z rfl (Y.loadA 2 isAgg40 sizeOf40 rfl rfl rfl rfl)<|Drw.z rfl rfl rfl rfl (X.call cf33 rfl<|?_); refine use_call (send_any wb p (adds [time, p.Beat]) ub us uc A5 c5 (joinsF us ub (cutsF links stp.cut) stp.join) (by omega) (by omega) (sendAll us stp (joinsF us ub (cutsF links stp.cut) stp.join) sd ms1 k) hus2 hlks us[k].who sd[k].m sd[k].A sd[k].cap hmk2.1 stp _ _ _ _ _ (St.lan (S := [_, _, _]) (M := (sendAll us stp (joinsF us ub (cutsF links stp.cut) stp.join) sd ms1 k).map UM.lres) (X := (ms1.map (UM.fres p)).flatten ++ L) hst.up_5.up_5.up_5) hmk2.2 hok1) rfl ?_; clear hst; rintro e w119 ⟨rfl, hst⟩; replace hst := (St.lan (S := (sendM us us[k].who sd[k].m stp (sendAll us stp (joinsF us ub (cutsF links stp.cut) stp.join) sd ms1 k) (joinsF us ub (cutsF links stp.cut) stp.join)).map UM.lres) (M := [_, _, _]) (X := (ms1.map (UM.fres p)).flatten ++ L) hst).dn5.dn5.dn5; refine ⟨_, rfl, Drw.done<|W.region rfl<|hst.y rfl (Y.addI rfl rfl (by omega))<|hst.y rfl (Y.moveI rfl)<|Ops.done rfl<|?_⟩; have e2 : sendOne us stp (joinsF us ub (cutsF links stp.cut) stp.join) sd (sendAll us stp (joinsF us ub (cutsF links stp.cut) stp.join) sd ms1 k) k = sendM us us[k].who sd[k].m stp (sendAll us stp (joinsF us ub (cutsF links stp.cut) stp.join) sd ms1 k) (joinsF us ub (cutsF links stp.cut) stp.join) := by unfold sendOne; rw [hso.1, hso.2]; exact if_neg hb109
                    have e3 := (sendAll_succ us stp (joinsF us ub (cutsF links stp.cut) stp.join) sd ms1 k).trans e2; exact ⟨k + 1, ⟨rfl, trivial⟩, ⟨rfl, rfl, rfl, rfl, rfl, trivial⟩, ⟨by omega, by rw [e3]; exact (hst.dr 1)⟩, by omega⟩
                  · replace hb109 := dT hb109; refine hst.y rfl (Y.not rfl)<|Ops.done rfl<|W.condF rfl rfl<|W.skip rfl<|W.region rfl<|hst.y rfl (Y.addI rfl rfl (by omega))<|hst.y rfl (Y.moveI rfl)<|Ops.done rfl<|?_; have e2 : sendOne us stp (joinsF us ub (cutsF links stp.cut) stp.join) sd (sendAll us stp (joinsF us ub (cutsF links stp.cut) stp.join) sd ms1 k) k = (sendAll us stp (joinsF us ub (cutsF links stp.cut) stp.join) sd ms1 k) := by unfold sendOne; rw [hso.1, hso.2]; exact if_pos hb109
                    have e3 := (sendAll_succ us stp (joinsF us ub (cutsF links stp.cut) stp.join) sd ms1 k).trans e2; exact ⟨k + 1, ⟨rfl, trivial⟩, ⟨rfl, rfl, rfl, rfl, rfl, trivial⟩, ⟨by omega, by rw [e3]; exact (hst.dr 1)⟩, by omega⟩
            · replace hb65 := dT hb65; refine W.condT rfl rfl<|W.skip rfl<|W.seq rfl<|W.block rfl<|W.seq rfl<|?_; obtain ⟨mk, hmk⟩ : ∃ mk, ms[k]? = some mk := ⟨_, List.getElem?_eq_getElem (by have := unL_len hus; omega)⟩; have hmk1 : ms1[k]? = some mk := (hrun.left k (Nat.le_refl _)).trans hmk; have hlane : (ms1.map UM.lres)[k]? = some mk.lres := by rw [List.getElem?_map, hmk1]; rfl
              have huk := unL_at hus hmk; have hokk : mk.Ok p G1 := hrun.ok mk (List.mem_of_getElem? hmk1); have hok1 := hok.mono hrun.more; refine W.region rfl<|hst.y rfl (Y.moveI rfl)<|hst.y rfl (Y.assignI rfl)<|Ops.ds rfl rfl<|hst.y rfl (Y.moveP rfl)<|hst.y rfl (Y.nilCheck rfl)<|hst.y rfl (Y.fieldAddr fa86_2 rfl)<|hst.y rfl (Y.load 2 isAgg84 rfl rfl rfl)<|hst.y rfl (Y.moveI rfl)<|hst.y rfl (Y.cast (Y.indexAddr underlying84 sizeOf96 rfl rfl (by simp) (by omega)) (congrArg (fun a => Value.pointer (some a)) (elt_at ub (k : Int) 4)))<|?_; refine hst.y rfl (Y.assignP rfl)<|Ops.ds rfl rfl<|hst.y rfl (Y.moveP rfl)<|hst.y rfl (Y.moveP rfl)<|hst.y rfl (Y.loadA 1 isAgg40 sizeOf40 rfl rfl rfl rfl)<|Ops.ww rfl (X.call cf31 rfl<|?_); refine use_call (input_un wb p (adds [time, p.Beat]) ub us uc A5 ((joinsF us ub (cutsF links stp.cut) stp.join)).length c5 stp k mk huk hokk.qs _ _ _ _ _ (hst.foc (pre := [_, _, _, _, _]) (mid := ms1.map UM.lres) (post := (ms1.map (UM.fres p)).flatten ++ L) (i := k) (r := mk.lres) hlane).up_3 (Rds.rowL 2 rfl) hok1) rfl ?_; clear hst; rintro e w76 ⟨i, G2, rfl, hio, hG2, hrH, hfit, hiT, hhl, hst⟩; replace hst := St.unfoc (pre := [_, _, _, _, _]) (mid := ms1.map UM.lres) (post := (ms1.map (UM.fres p)).flatten ++ L) (i := k) (r := mk.lres) hst.dn3 hlane; refine ⟨_, rfl, Ops.ww rfl (X.allocA hst zeroValue99 fun p12 w12 hst => Ops.ww rfl (X.storeS hst 0 sizeOf99 rfl rfl rfl rfl rfl (lZ rfl) rfl rfl fun w19_5 hst => Ops.done rfl<|W.seq rfl<|?_))⟩; have hasc := asc_of hio.heard; have hok2 := hok1.mono hG2; have hpw2 := hG2 _ (hrun.more _ hpw)
              have hfr1 : (ms1.set k (mk.setQs qs0)).map (UM.fres p) = ms1.map (UM.fres p) := by
                rw [List.map_set, setQs_fres]; exact set_same (by rw [List.getElem?_map, hmk1]; rfl)
              have hlr1 : (ms1.map UM.lres).set k (mk.setQs qs0).lres = (ms1.set k (mk.setQs qs0)).map UM.lres := by rw [List.map_set]
              rw [hlr1, ← hfr1] at hst; have hfk : ((ms1.set k (mk.setQs qs0)).map (UM.fres p))[k]? = some ((mk.setQs qs0).fres p) := by rw [hfr1, List.getElem?_map, hmk1]; rfl
              have hlt1 : k < us.length := by omega
              have heq : us[k] = mk.un := by rw [List.getElem?_eq_getElem hlt1] at huk; injection huk
              have hwk : us[k].who = mk.u.who := by rw [heq]; rfl
              have hsl : sd.length = us.length := by rw [hrun.len, unL_len hus]
              have hbi : Value.iface us[k].bt (.pointer (some ⟨us[k].fb, 0, none⟩)) = .iface mk.un.bt (.pointer (some ⟨mk.fb, 0, none⟩)) := by rw [heq]; rfl
              refine hst.dv [] (T0 [0,1,2,3,4,5] (.op 6 1 (.op 7 0 .nil))) rfl (by kernel_rfl) rfl (by kernel_rfl) fun wd hst => ?_; refine hst.z rfl (Y.fieldAddr fa40_5 rfl)<|hst.z rfl (Y.load 2 isAgg24 rfl rfl rfl)<|hst.z rfl (Y.moveP rfl)<|hst.z rfl (Y.nilCheck rfl)<|?_
              first
              | refine hst.z rfl (Y.fieldAddr fa96_0 rfl) ?_
              | refine hst.z rfl (Y.fieldAddrP fa96_0 rfl) ?_
              refine hst.z rfl (Y.loadCell isAgg3 rfl (Rds.rowL 4 rfl) ((flat_get unC_len us k 0 hlt1 (by decide)).trans rfl)) ?_; refine Drw.ww rfl (X.retB cf32 (contains_int stp.off (by omega) _ _ us[k].who _ _ _ _ _ hst hok2.off.hd) rfl fun b83 w83 hb83 hst => ⟨hst.ctx, ?_⟩); cases b83
              · replace hb83 := dF hb83; refine hst.z rfl (Y.not rfl)<|Drw.done<|W.condT rfl rfl<|W.drawn rfl (by kernel_rfl) (Ctx _ _ (_) (_)) [7, 8, 9] (.op 0 2 (.op 1 2 (.op 2 0 (.op 3 0 (.op 4 0 (.op 5 0 (.op 6 0 (.op 7 1 (.op 8 1 (.op 9 1 .nil)))))))))) rfl (by kernel_rfl) hst.drew.ctx<|?_; replace hst := hst.drew; generalize World.drew _ = wd at hst ⊢; refine Drw.ya rfl rfl rfl hst.ctx (Y.moveS rfl)<|Drw.ya rfl rfl rfl hst.ctx (Y.moveI rfl)<|hst.z rfl (Y.moveP rfl)<|hst.z rfl (Y.nilCheck rfl)<|?_
                first
                | refine hst.z rfl (Y.fieldAddr fa96_1 rfl) ?_
                | refine hst.z rfl (Y.fieldAddrP fa96_1 rfl) ?_
                refine hst.z rfl (Y.cast (Y.loadCell isAgg93 rfl (Rds.rowL 4 rfl) ((flat_get unC_len us k 1 hlt1 (by decide)).trans rfl)) hbi) ?_; refine hst.z rfl (Y.loadA 0 isAgg99 sizeOf99 rfl rfl rfl rfl)<|Drw.z rfl rfl rfl rfl (X.callI (meth_un mk) (cf_un mk) rfl rfl<|?_); refine use_call (beat_un tbl htl p hp (mk.setQs qs0) (hwho mk (List.mem_of_getElem? hmk)) stp i _ _ _ _ _ (hst.focF2 (pre := [_, _, _, _, _, _]) (lan := (ms1.set k (mk.setQs qs0)).map UM.lres) (mid := (ms1.set k (mk.setQs qs0)).map (UM.fres p)) (post := L) (i := k) hfk) hpw2 ((⟨hokk.fit, hokk.tab, hokk.near, qs0_fit⟩ : (mk.setQs qs0).Ok p G1).mono hG2) hasc hhl hiT.2 hiT.1 hrH hfit) rfl ?_; clear hst; rintro e w92 ⟨m', h', G3, rfl, hbc, hwho', hqs', hun', hok', hmsg', hG3, hst⟩; replace hst := St.unfocF2 (pre := [_, _, _, _, _, _]) (lan := (ms1.set k (mk.setQs qs0)).map UM.lres) (mid := (ms1.set k (mk.setQs qs0)).map (UM.fres p)) (post := L) (i := k) hst hfk; refine ⟨_, rfl, Drw.zy rfl rfl rfl rfl hst.ctx (Y.cast (Y.indexAddr underlying90 sizeOf103 rfl rfl (by simp) (by omega)) (congrArg (fun a => Value.pointer (some a)) (elt_at p58 (k : Int) 14)))<|?_⟩; refine Drw.z rfl rfl rfl rfl (X.storeS hst 1 sizeOf103 (b := p58) (i := k * 14) rfl rfl rfl rfl rfl (by have h9 := flat_length mhC_len sd; show _ ≤ (flat mhC sd).length; omega) (flat_set mhC_len sd k h' (by omega)) rfl fun w21_9 hst => ?_); refine Drw.done<|W.region rfl<|hst.y rfl (Y.addI rfl rfl (by omega))<|hst.y rfl (Y.moveI rfl)<|Ops.done rfl<|?_
                have hlb' : m'.lres = (mk.setQs qs0).lres := by
                  have h1 : m'.lb = mk.lb := congrArg Un.lb hun'; have h2 : m'.u.qs = qs0 := hqs'; unfold UM.lres; rw [h1, h2]; rfl
                have hst2 := (hst.dr 1); have e1 : (ms1.set k (mk.setQs qs0)).map UM.lres = (ms1.set k m').map UM.lres := by rw [List.map_set, List.map_set, hlb']
                have e2 : ((ms1.set k (mk.setQs qs0)).map (UM.fres p)).set k (m'.fres p) = (ms1.set k m').map (UM.fres p) := by rw [List.map_set, List.map_set, List.set_set]
                rw [e1, e2] at hst2; have hbu : BeatU p stp mk.u m'.u h'.m := ⟨hwho', hqs', .inr ⟨by rw [← hwk]; exact hb83, i, hio, hbc⟩⟩; exact ⟨(k + 1, ms1.set k m', sd.set k h', G3), ⟨rfl, trivial⟩, ⟨rfl, rfl, rfl, rfl, trivial⟩, ⟨⟨by dsimp only; omega, hrun.step hmk hbu hun' hok' hmsg' (fun r hr => hG3 r (hG2 r hr))⟩, hst2⟩, by dsimp only; omega⟩
              · replace hb83 := dT hb83; refine hst.z rfl (Y.not rfl)<|Drw.done<|W.condF rfl rfl<|W.skip rfl<|W.region rfl<|hst.y rfl (Y.addI rfl rfl (by omega))<|hst.y rfl (Y.moveI rfl)<|Ops.done rfl<|?_; have hst2 := (hst.dr 1); obtain ⟨hk0, hk0s⟩ : ∃ h, sd[k]? = some h := ⟨_, List.getElem?_eq_getElem (by omega)⟩; have hz := hrun.left2 k _ (Nat.le_refl _) hk0s; subst hz; have e3 : sd.set k Hd0 = sd := set_same hk0s; have hbu : BeatU p stp mk.u (mk.setQs qs0).u Hd0.m := BeatU.off (by rw [← hwk]; exact hb83); have hstp := hrun.step hmk (m' := mk.setQs qs0) (h' := Hd0) (G2 := G2) hbu rfl ((⟨hokk.fit, hokk.tab, hokk.near, qs0_fit⟩ : (mk.setQs qs0).Ok p G1).mono hG2) ((hrun.msg _ (List.mem_of_getElem? hk0s)).mono hG2) hG2; rw [e3] at hstp; exact ⟨(k + 1, (ms1.set k (mk.setQs qs0)), sd, G2), ⟨rfl, trivial⟩, ⟨rfl, rfl, rfl, rfl, trivial⟩, ⟨⟨by dsimp only; omega, hstp⟩, hst2⟩, by dsimp only; omega⟩
        · replace hb46 := dT hb46; refine W.condT rfl rfl<|W.skip rfl<|W.seq rfl<|W.block rfl<|W.seq rfl<|?_; have hk1 : k < stp.join.length := by omega
          have hjk := joinsF_len us ub (cutsF links stp.cut) (stp.join.take k); rw [List.length_take] at hjk; refine W.region rfl<|hst.y rfl (Y.indexAddr underlying25 sizeOf77 rfl rfl ((hok.join.hd.sl hst).ne (flat_pos pairC_len (by decide) (by omega))) (by omega))<|?_; refine hst.y rfl (Y.loadSlA isAgg77 sizeOf77 rfl hok.join.hd (flat_atI pairC_len stp.join k hk1) rfl)<|Ops.ww rfl (X.allocA hst zeroValue77 fun p8 w8 hst => Ops.ww rfl (X.storeS hst 0 sizeOf77 rfl rfl rfl rfl rfl (lZ rfl) rfl rfl fun w11_3 hst => Ops.done rfl<|W.region rfl<|hst.y rfl (Y.moveP rfl)<|hst.y rfl (Y.loadA 0 isAgg77 sizeOf77 rfl rfl rfl rfl)<|Ops.ww rfl (X.call cf28 rfl<|?_))); refine use_call (both_any wb p (adds [time, p.Beat]) ub us uc (joinL us ub) 1000000 (joinL_len us ub) ((joinsF us ub (cutsF links stp.cut) (stp.join.take k))) (by omega) A5 c5 stp.join[k] 30 cf30 _ _ _ _ _ (hst.up_4.up_3) (fun l hl A c y w L1 hst => join_any wb p (adds [time, p.Beat]) ub us uc l hl A c y (by omega) _ _ _ _ _ hst (Rds.rowM (List.mem_append_right _ (.tail _ (.tail _ (.head _))))))) rfl ?_; clear hst; rintro e w_b ⟨A6, c6, rfl, hst⟩; replace hst := hst.dn3.dn4; refine ⟨_, rfl, ?_⟩; refine Ops.done rfl<|W.region rfl<|hst.y rfl (Y.addI rfl rfl (by omega))<|hst.y rfl (Y.moveI rfl)<|Ops.done rfl<|?_; have e2 := joinsF_snoc us ub (cutsF links stp.cut) stp.join k hk1; have hst2 := (hst.dr 1); rw [← e2] at hst2; exact ⟨(k + 1, A6, c6), ⟨rfl, trivial⟩, ⟨rfl, rfl, rfl, rfl, trivial⟩, ⟨by dsimp only; omega, hst2⟩, by dsimp only; omega⟩
    · replace hb35 := dT hb35; refine W.condT rfl rfl<|W.skip rfl<|W.seq rfl<|W.block rfl<|W.seq rfl<|?_; have hk1 : k < stp.cut.length := by omega
      have hck := cutsF_len links (stp.cut.take k); refine W.region rfl<|hst.y rfl (Y.indexAddr underlying25 sizeOf77 rfl rfl ((hok.cut.hd.sl hst).ne (flat_pos pairC_len (by decide) (by omega))) (by omega))<|?_; refine hst.y rfl (Y.loadSlA isAgg77 sizeOf77 rfl hok.cut.hd (flat_atI pairC_len stp.cut k hk1) rfl)<|Ops.ww rfl (X.allocA hst zeroValue77 fun p6 w6 hst => Ops.ww rfl (X.storeS hst 0 sizeOf77 rfl rfl rfl rfl rfl (lZ rfl) rfl rfl fun w6_3 hst => Ops.done rfl<|W.region rfl<|hst.y rfl (Y.moveP rfl)<|hst.y rfl (Y.loadA 0 isAgg77 sizeOf77 rfl rfl rfl rfl)<|Ops.ww rfl (X.call cf28 rfl<|?_))); refine use_call (both_any wb p (adds [time, p.Beat]) ub us uc (cutE) 1000000 (fun l y => Nat.le_succ_of_le (cutE_len l y)) ((cutsF links (stp.cut.take k))) (by omega) A5 c5 stp.cut[k] 29 cf29 _ _ _ _ _ (hst.up_4.up_3) (fun l hl A c y w L1 hst => (cut_any wb p (adds [time, p.Beat]) ub us uc l hl A c y _ _ _ _ _ hst).mono (fun e w' ⟨h1, h2⟩ => ⟨A, c, h1, h2⟩))) rfl ?_; clear hst; rintro e w_b ⟨A6, c6, rfl, hst⟩; replace hst := hst.dn3.dn4; refine ⟨_, rfl, ?_⟩; refine Ops.done rfl<|W.region rfl<|hst.y rfl (Y.addI rfl rfl (by omega))<|hst.y rfl (Y.moveI rfl)<|Ops.done rfl<|?_; have e2 := cutsF_snoc links stp.cut k hk1; have hst2 := (hst.dr 1); rw [← e2] at hst2; exact ⟨(k + 1, A6, c6), ⟨rfl, trivial⟩, ⟨rfl, rfl, rfl, rfl, trivial⟩, ⟨by dsimp only; omega, hst2⟩, by dsimp only; omega⟩
end Go.Proofs.YtaanjifekgfemaaGreat.Cl
end
section
namespace Go.Proofs.YtaanjifekgfemaaGreat.Cl
open Tryz
open Go.RowKit Go.Proofs.YtaanjifekgfemaaGreat.K Go.Proofs.YtaanjifekgfemaaGreat.W Go.Proofs.YtaanjifekgfemaaGreat.LN
def S00 : Stt := ⟨0, 0, 0, false, 0, 0, false, [], 0, 0, 0⟩
def gatesP (p : Par) (n : Nat) : List PU := (List.range n).map fun (i : Nat) => freshP p (i : Int) S00
def nodesP (p : Par) (n : Nat) : List PU := (List.range n).map fun (i : Nat) => freshP p (16 + (i : Int)) S00
theorem gatesP_succ (p : Par) (n : Nat) : gatesP p (n + 1) = gatesP p n ++ [freshP p (n : Int) S00] := by unfold gatesP; rw [List.range_succ, List.map_append]; rfl
theorem nodesP_succ (p : Par) (n : Nat) : nodesP p (n + 1) = nodesP p n ++ [freshP p (16 + (n : Int)) S00] := by unfold nodesP; rw [List.range_succ, List.map_append]; rfl
def puL (ms : List UM) : List PU := ms.map (·.u)
def jkF (us : List Un) (ub : Nat) (i : Nat) (l : List (Int × Int)) (n : Nat) : List (Int × Int) := (List.range n).foldl (fun l (k : Nat) => joinL us ub l ((i : Int), (k : Int))) l
def jc1 (us : List Un) (ub : Nat) (i : Nat) (l : List (Int × Int)) (c : Int) : List (Int × Int) := if 0 ≤ c ∧ c < 32 then joinL us ub l ((i : Int), 16 + c) else l
def jcF (us : List Un) (ub : Nat) (i : Nat) (l : List (Int × Int)) (cs : List Int) : List (Int × Int) := cs.foldl (jc1 us ub i) l
def ji1 (us : List Un) (ub : Nat) (n : Nat) (cs : List Int) (l : List (Int × Int)) (i : Nat) : List (Int × Int) := jcF us ub i (jkF us ub i l n) cs
def jiF (us : List Un) (ub : Nat) (n : Nat) (cs : List Int) (m : Nat) : List (Int × Int) := (List.range m).foldl (ji1 us ub n cs) []
def links0 (us : List Un) (ub : Nat) (n : Nat) (cs : List Int) (ls : List (Int × Int)) : List (Int × Int) := joinsF us ub (jiF us ub n cs n) ls
theorem jkF_succ (us : List Un) (ub : Nat) (i : Nat) (l : List (Int × Int)) (k : Nat) : jkF us ub i l (k + 1) = joinL us ub (jkF us ub i l k) ((i : Int), (k : Int)) := by unfold jkF; rw [List.range_succ, List.foldl_append]; rfl
theorem jcF_snoc (us : List Un) (ub : Nat) (i : Nat) (l : List (Int × Int)) (cs : List Int) (k : Nat) (h : k < cs.length) : jcF us ub i l (cs.take (k + 1)) = jc1 us ub i (jcF us ub i l (cs.take k)) cs[k] := fold_snoc _ _ _ _ h
theorem jiF_succ (us : List Un) (ub : Nat) (n : Nat) (cs : List Int) (i : Nat) : jiF us ub n cs (i + 1) = ji1 us ub n cs (jiF us ub n cs i) i := by unfold jiF; rw [List.range_succ, List.foldl_append]; rfl
theorem jkF_len (us : List Un) (ub : Nat) (i : Nat) (l : List (Int × Int)) (n : Nat) : (jkF us ub i l n).length ≤ l.length + n := by
  induction n with
  | zero => exact Nat.le_refl _
  | succ n ih => rw [jkF_succ]; have := joinL_len us ub (jkF us ub i l n) ((i : Int), (n : Int)); omega
theorem jc1_len (us : List Un) (ub : Nat) (i : Nat) (l : List (Int × Int)) (c : Int) : (jc1 us ub i l c).length ≤ l.length + 1 := by
  unfold jc1; split
  · exact joinL_len ..
  · omega
theorem jcF_len (us : List Un) (ub : Nat) (i : Nat) (l : List (Int × Int)) (cs : List Int) : (jcF us ub i l cs).length ≤ l.length + cs.length := by
  unfold jcF
  induction cs generalizing l with
  | nil => simp
  | cons c cs ih => have h1 := ih (jc1 us ub i l c); have h2 := jc1_len us ub i l c; simp only [List.foldl_cons, List.length_cons] at h1 ⊢; omega
theorem jiF_len (us : List Un) (ub : Nat) (n : Nat) (cs : List Int) (m : Nat) : (jiF us ub n cs m).length ≤ m * (n + cs.length) := by
  induction m with
  | zero => simp [jiF]
  | succ m ih =>
    rw [jiF_succ]; unfold ji1; have h1 := jkF_len us ub m (jiF us ub n cs m) n; have h2 := jcF_len us ub m (jkF us ub m (jiF us ub n cs m) n) cs; rw [Nat.add_mul]; omega
theorem linksOk_nil (us : List Un) : LinksOk us [] := fun l h => by cases h
theorem linksOk_0 (us : List Un) (ub : Nat) (n : Nat) (cs : List Int) (ls : List (Int × Int)) : LinksOk us (links0 us ub n cs ls) := by
  refine linksOk_fold (fun l y h => linksOk_join h y) ?_ _; unfold jiF
  have hk : ∀ (i : Nat) (l : List (Int × Int)) (n : Nat), LinksOk us l → LinksOk us (jkF us ub i l n) := by
    intro i l n h
    induction n with
    | zero => exact h
    | succ n ih => rw [jkF_succ]; exact linksOk_join ih _
  have hc : ∀ (i : Nat) (cs : List Int) (l : List (Int × Int)), LinksOk us l → LinksOk us (jcF us ub i l cs) := by
    intro i cs; unfold jcF
    induction cs with
    | nil => intro l h; exact h
    | cons c cs ih =>
      intro l h; refine ih _ ?_; unfold jc1; split
      · exact linksOk_join h _
      · exact h
  have : ∀ (js : List Nat) (l : List (Int × Int)), LinksOk us l → LinksOk us (js.foldl (ji1 us ub n cs) l) := by
    intro js
    induction js with
    | nil => intro l h; exact h
    | cons j js ih => intro l h; exact ih _ (hc _ _ _ (hk _ _ _ h))
  exact this _ _ (linksOk_nil us)
theorem row_someN {w : World} {A : Option Addr} {m cp size : Nat} {e : TypeId} {xs : List Value} (h : (rowR (.slice A m cp) e size m xs).holds w) (hm : 0 < m) : ∃ gb, A = some ⟨gb, 0, none⟩ := by
  rcases h.2 with ⟨h1, h2⟩ | ⟨g, cap, cur, h1, _⟩
  · omega
  · injection h1 with h1 h3 h4; exact ⟨g, h1⟩
theorem Ctx.of_mem {w0 w : World} {F0 : List Nat} {L G G0 : List Res} {r : Res} (h : St w0 F0 w L G) (hr : r ∈ L) (hG : ∀ g ∈ G0, g ∈ G) : Ctx w0 F0 [r] G0 w := by
  obtain ⟨A, B, rfl⟩ := List.append_of_mem hr; refine ⟨A ++ B, [], (h.facts hG).perm ?_⟩; have h1 : (A ++ r :: B).Perm (r :: (A ++ B)) := List.perm_middle; exact h1.trans (List.perm_append_singleton r (A ++ B)).symm
theorem St.newU {w0 w : World} {F0 : List Nat} {G : List Res} {a x : Res} {S M L F : List Res} {FF : List (List Res)} (h : St w0 F0 w (a :: x :: (F ++ (S ++ (M ++ (FF.flatten ++ L))))) G) : St w0 F0 w (a :: (S ++ ((M ++ [x]) ++ ((FF ++ [F]).flatten ++ L)))) G :=
  h.perm (by
    refine List.Perm.cons a ?_; have e1 : (FF ++ [F]).flatten = FF.flatten ++ F := by simp
    rw [e1]; have p1 : (x :: (F ++ (S ++ (M ++ (FF.flatten ++ L))))).Perm (F ++ (x :: (S ++ (M ++ (FF.flatten ++ L))))) := List.perm_middle.symm
    have p2 : (F ++ (x :: (S ++ (M ++ (FF.flatten ++ L))))).Perm ((x :: (S ++ (M ++ (FF.flatten)))) ++ (F ++ L)) := by
      have : (x :: (S ++ (M ++ (FF.flatten ++ L)))) = (x :: (S ++ (M ++ FF.flatten))) ++ L := by simp
      rw [this, ← List.append_assoc F, ← List.append_assoc (x :: (S ++ (M ++ FF.flatten)))]; exact List.perm_append_comm.append_right _
    have p3 : ((x :: (S ++ (M ++ (FF.flatten)))) ++ (F ++ L)).Perm (S ++ ((M ++ [x]) ++ ((FF.flatten ++ F) ++ L))) := by
      have e2 : (x :: (S ++ (M ++ FF.flatten))) ++ (F ++ L) = x :: ((S ++ M) ++ (FF.flatten ++ (F ++ L))) := by simp
      have e3 : S ++ ((M ++ [x]) ++ ((FF.flatten ++ F) ++ L)) = (S ++ M) ++ (x :: (FF.flatten ++ (F ++ L))) := by simp
      rw [e2, e3]; exact List.perm_middle.symm
    exact p1.trans (p2.trans p3))
end Go.Proofs.YtaanjifekgfemaaGreat.Cl
end
section
namespace Go.Proofs.YtaanjifekgfemaaGreat.Cl
open Tryz
open Go.RowKit Go.Proofs.YtaanjifekgfemaaGreat.K Go.Proofs.YtaanjifekgfemaaGreat.W Go.Proofs.YtaanjifekgfemaaGreat.LN
attribute [local irreducible] bound clip adds sub neg mag mulp mul maxs
theorem bd57_ {S ρ ty} {parts : Array (Nat × Operand)}  (hp : (parts.toList.map fun x => (x.1, ev ρ x.2)) = []) : Y Tryz.prog S ρ (.build 57 parts) ty (.agg #[Value.int .i64 0, Value.int .i64 0, Value.int .i64 0, Value.bool false, Value.int .i64 0, Value.int .i64 0, Value.bool false, Value.slice none 0 0, Value.int .i64 0, Value.int .i64 0, Value.int .i64 0]) :=
  Y.build hp fun w => by simp [Instr.build, go_sem]
theorem bd86_0 {S ρ ty} {parts : Array (Nat × Operand)} {x0_0 : Int} {x0_1 : Int} {x0_2 : Int} {x0_3 : Int} {x0_4 : Int} {x0_5 : Int} {x0_6 : Int} {x0_7 : Int} {x0_8 : Int} {x0_9 : Int} {x0_10 : Int} {x0_11 : Int} (hp : (parts.toList.map fun x => (x.1, ev ρ x.2)) = [(0, .agg #[Value.int .i64 x0_0, Value.int .i64 x0_1, Value.int .i64 x0_2, Value.int .i64 x0_3, Value.int .i64 x0_4, Value.int .i64 x0_5, Value.int .i64 x0_6, Value.int .i64 x0_7, Value.int .i64 x0_8, Value.int .i64 x0_9, Value.int .i64 x0_10, Value.int .i64 x0_11])]) : Y Tryz.prog S ρ (.build 86 parts) ty (.agg #[Value.int .i64 x0_0, Value.int .i64 x0_1, Value.int .i64 x0_2, Value.int .i64 x0_3, Value.int .i64 x0_4, Value.int .i64 x0_5, Value.int .i64 x0_6, Value.int .i64 x0_7, Value.int .i64 x0_8, Value.int .i64 x0_9, Value.int .i64 x0_10, Value.int .i64 x0_11, Value.int .i64 0, Value.slice none 0 0, Value.slice none 0 0]) :=
  Y.build hp fun w => by simp [Instr.build, go_sem]
theorem cf22 : CF 22 := fun _ _ => by simp [go_sem]
theorem info96 : (Tryz.prog.info? 96).map (fun i => (i.zero, i.size, i.bytes)) = some (some (.agg #[Value.int .i64 0, Value.nilIface, Value.pointer none, Value.pointer none]), 4, 40) := by kernel_rfl
set_option maxHeartbeats 8000000 in
theorem wnew_any (p : Par) (hp : p.Ok) (nodes : Nat) (hnd : nodes ≤ 32) (core : List Int) (hcl : core.length ≤ 1000) (B : Option Addr) (cb : Nat) (links : List (Int × Int)) (hll : links.length ≤ 100000) (C : Option Addr) (cc : Nat) (w0 w : World) (F0 : List Nat) (L G : List Res) (hst : St w0 F0 w L G) (hrn : Rds [] G (.slice none 0 0) 0 []) (hrc : Rds [] G (.slice B core.length cb) core.length (ivs core)) (hrl : Rds [] G (.slice C links.length cc) links.length (flat pairC links)) :
    Calls Tryz.prog 20 #[.agg #[.int .i64 p.N, .int .i64 p.F, .int .i64 p.D, .int .i64 p.Beat, .int .i64 p.Rho, .int .i64 p.Delay, .int .i64 p.Jitter, .int .i64 p.Eps, .int .i64 p.Mu, .int .i64 p.Hold, .int .i64 p.Pulse, .int .i64 p.Second], .int .i64 (nodes : Int), .slice B core.length cb, .slice C links.length cc] w fun e w' => ∃ (wb ub uc : Nat) (LA : Option Addr) (lc : Nat) (ms : List UM) (G' : List Res), e = .returned (.tuple #[.pointer (some ⟨wb, 0, none⟩), .int .i64 0]) ∧ puL ms = gatesP p p.N.toNat ++ nodesP p nodes ∧ (∀ m ∈ ms, m.Ok p G') ∧ (∀ r ∈ G, r ∈ G') ∧ St w0 F0 w' (cellsR wb (wC p 0 (.slice (some ⟨ub, 0, none⟩) (unL ms).length uc) (.slice LA (links0 (unL ms) ub p.N.toNat core links).length lc)) 86 :: rowR (.slice (some ⟨ub, 0, none⟩) (unL ms).length uc) 96 4 (unL ms).length (flat unC (unL ms)) :: rowR (.slice LA (links0 (unL ms) ub p.N.toNat core links).length lc) 77 2 (links0 (unL ms) ub p.N.toNat core links).length (flat pairC (links0 (unL ms) ub p.N.toNat core links)) :: ((ms).map UM.lres ++ (((ms).map (UM.fres p)).flatten ++ L))) G' := by
  have hN := hp.N; refine W.func func20 rfl ntmps20 rfl<|W.sr rfl<|Ops.ww rfl (X.boxA hst rfl fun p4 w4 hst => hst.y rfl (Y.assignP rfl)<|hst.y rfl (Y.assignI rfl)<|Ops.done rfl<|W.seq rfl<|W.sr rfl<|hst.y rfl (Y.loadA 0 isAgg23 sizeOf23 rfl rfl rfl rfl)<|Ops.ww rfl (X.call cf22 rfl<|?_)); refine use_call (check_any p _ _ _ _ _ hst) rfl ?_; clear hst; rintro e w20 ⟨er, rfl, hch, hst⟩; obtain rfl : er = 0 := hch.2 hp; refine ⟨_, rfl, hst.yb rfl (Y.neq rfl rfl) (fun b21 hb21 => hst.y rfl (Y.moveB rfl)<|?_)⟩; cases b21
  · replace hb21 := dF hb21; refine hst.y rfl (Y.moveI rfl)<|hst.yb rfl (Y.lss rfl rfl) (fun b24 hb24 => hst.y rfl (Y.pB rfl rfl)<|hst.y rfl (Y.moveB rfl)<|?_); cases b24
    · replace hb24 := dF hb24; refine hst.y rfl (Y.moveI rfl)<|hst.yb rfl (Y.gtr rfl rfl) (fun b28 hb28 => hst.y rfl (Y.pB rfl rfl)<|Ops.done rfl<|?_); cases b28
      · replace hb28 := dF hb28; refine W.condF rfl rfl<|W.skip rfl<|W.sr rfl<|hst.y rfl (Y.loadA 0 isAgg23 sizeOf23 rfl rfl rfl rfl)<|hst.y rfl (bd86_0 rfl)<|Ops.ww rfl (X.boxA hst rfl fun p32 w32 hst => hst.y rfl (Y.assignP rfl)<|Ops.done rfl<|W.seq rfl<|W.sr rfl<|?_); replace hst := (((hst.nilRow 77 2).nilRow 96 4).up_2); refine hst.y rfl (Y.fieldAddr fa23_0 rfl)<|hst.y rfl (Y.load 3 isAgg3 rfl rfl rfl)<|hst.y rfl (Y.moveI rfl)<|Ops.done rfl<|W.block rfl<|?_; refine W.loop (γ := Nat × List UM × Option Addr × Nat × List Res) [(1, .int _ _), (2, .slice _ _ _), (3, .slice _ _ _), (4, .pointer _), (10, .pointer _), (34, .int _ _)] (fun x => [(35, .int .i64 (x.1 : Int))]) (fun x w => (x.1 ≤ p.N.toNat ∧ (puL x.2.1) = gatesP p x.1 ∧ (∀ m ∈ x.2.1, m.Ok p x.2.2.2.2) ∧ ∀ r ∈ G, r ∈ x.2.2.2.2) ∧ St w0 F0 w (cellsR p32 (wC p 0 (.slice x.2.2.1 (unL x.2.1).length x.2.2.2.1) (.slice none 0 0)) 86 :: rowR (.slice x.2.2.1 (unL x.2.1).length x.2.2.2.1) 96 4 (unL x.2.1).length (flat unC (unL x.2.1)) :: rowR (.slice none 0 0) 77 2 0 [] :: cellsR p4 (parC p) 23 :: ((x.2.1).map UM.lres ++ (((x.2.1).map (UM.fres p)).flatten ++ L))) x.2.2.2.2) (fun x => p.N.toNat - x.1) ((0, [], none, 0, G)) rfl ⟨rfl, rfl, rfl, rfl, rfl, rfl, trivial⟩ ?_ ?_ ?_
        · exact ⟨rfl, trivial⟩
        · exact ⟨⟨Nat.zero_le _, rfl, fun m h => (by cases h), fun r hr => hr⟩, hst⟩
        · clear hst; rintro ⟨k, ms, A5, c5, G1⟩ j w5 ⟨⟨hk, hpu, hok, hG1⟩, hst⟩; dsimp only at hk hpu hok hG1; refine W.sr rfl<|hst.yb rfl (Y.lss rfl rfl) (fun b36 hb36 => Ops.done rfl<|W.seq rfl<|?_); cases b36
          · replace hb36 := dF hb36; refine W.condF rfl rfl<|W.exit rfl<|W.seq rfl<|W.seq rfl<|?_; obtain rfl : k = p.N.toNat := by omega
            refine W.region rfl<|hst.y rfl (Y.moveI rfl)<|hst.y rfl (Y.moveI rfl)<|Ops.done rfl<|W.block rfl<|?_; refine W.loop (γ := Nat × List UM × Option Addr × Nat × List Res) [(2, .slice _ _ _), (3, .slice _ _ _), (4, .pointer _), (10, .pointer _), (52, .int _ _)] (fun x => [(53, .int .i64 (x.1 : Int))]) (fun x w => (x.1 ≤ nodes ∧ (puL x.2.1) = gatesP p p.N.toNat ++ nodesP p x.1 ∧ (∀ m ∈ x.2.1, m.Ok p x.2.2.2.2) ∧ ∀ r ∈ G, r ∈ x.2.2.2.2) ∧ St w0 F0 w (cellsR p32 (wC p 0 (.slice x.2.2.1 (unL x.2.1).length x.2.2.2.1) (.slice none 0 0)) 86 :: rowR (.slice x.2.2.1 (unL x.2.1).length x.2.2.2.1) 96 4 (unL x.2.1).length (flat unC (unL x.2.1)) :: rowR (.slice none 0 0) 77 2 0 [] :: cellsR p4 (parC p) 23 :: ((x.2.1).map UM.lres ++ (((x.2.1).map (UM.fres p)).flatten ++ L))) x.2.2.2.2) (fun x => nodes - x.1) ((0, ms, A5, c5, G1)) rfl ⟨rfl, rfl, rfl, rfl, rfl, trivial⟩ ?_ ?_ ?_
            · exact ⟨rfl, trivial⟩
            · exact ⟨⟨Nat.zero_le _, by dsimp only; rw [hpu]; simp [nodesP], hok, hG1⟩, hst⟩
            · clear hst; rintro ⟨k, ms, A5, c5, G1⟩ j w10 ⟨⟨hk, hpu, hok, hG1⟩, hst⟩; dsimp only at hk hpu hok hG1; refine W.sr rfl<|hst.yb rfl (Y.lss rfl rfl) (fun b54 hb54 => Ops.done rfl<|W.seq rfl<|?_); cases b54
              · replace hb54 := dF hb54; refine W.condF rfl rfl<|W.exit rfl<|W.seq rfl<|W.seq rfl<|?_; obtain rfl : nodes = k := by omega
                have hml : (unL ms).length = p.N.toNat + nodes := by have h1 := congrArg List.length hpu; unfold puL gatesP nodesP at h1; unfold unL; rw [List.length_map] at h1 ⊢; rw [h1]; simp
                obtain ⟨uc, rfl⟩ : ∃ uc, uc = c5 := ⟨_, rfl⟩; obtain ⟨ub, rfl⟩ := row_someN (hst.res _ (.tail _ (.head _))) (by show 0 < (unL ms).length; omega); have hul : (unL ms).length ≤ 1000000 := by omega
                refine W.region rfl<|hst.y rfl (Y.fieldAddr fa23_0 rfl)<|hst.y rfl (Y.load 3 isAgg3 rfl rfl rfl)<|hst.y rfl (Y.moveI rfl)<|Ops.done rfl<|W.block rfl<|?_; refine W.loop (γ := Nat × Option Addr × Nat) [(2, .slice _ _ _), (3, .slice _ _ _), (4, .pointer _), (10, .pointer _), (72, .int _ _)] (fun x => [(73, .int .i64 (x.1 : Int))]) (fun x w => x.1 ≤ p.N.toNat ∧ St w0 F0 w (cellsR p32 (wC p 0 (.slice (some ⟨ub, 0, none⟩) (unL ms).length uc) (.slice x.2.1 ((jiF (unL ms) ub p.N.toNat core x.1)).length x.2.2)) 86 :: rowR (.slice (some ⟨ub, 0, none⟩) (unL ms).length uc) 96 4 (unL ms).length (flat unC (unL ms)) :: rowR (.slice x.2.1 ((jiF (unL ms) ub p.N.toNat core x.1)).length x.2.2) 77 2 ((jiF (unL ms) ub p.N.toNat core x.1)).length (flat pairC ((jiF (unL ms) ub p.N.toNat core x.1))) :: cellsR p4 (parC p) 23 :: ((ms).map UM.lres ++ (((ms).map (UM.fres p)).flatten ++ L))) G1) (fun x => p.N.toNat - x.1) ((0, none, 0)) rfl ⟨rfl, rfl, rfl, rfl, rfl, trivial⟩ ?_ ?_ ?_
                · exact ⟨rfl, trivial⟩
                · exact ⟨Nat.zero_le _, hst⟩
                · clear hst; rintro ⟨i, A5, c5⟩ j w15 ⟨hi, hst⟩; dsimp only at hi; refine W.sr rfl<|hst.yb rfl (Y.lss rfl rfl) (fun b74 hb74 => Ops.done rfl<|W.seq rfl<|?_); cases b74
                  · replace hb74 := dF hb74; refine W.condF rfl rfl<|W.exit rfl<|W.seq rfl<|W.seq rfl<|?_; obtain rfl : i = p.N.toNat := by omega
                    have hjl := jiF_len (unL ms) ub p.N.toNat core p.N.toNat
                    have hjl2 : p.N.toNat * (p.N.toNat + core.length) ≤ 16 * (16 + 1000) := Nat.mul_le_mul (by omega) (by omega); refine W.region rfl<|hst.y rfl (Y.moveS rfl)<|hst.y rfl (Y.lenS underlying25 rfl)<|hst.y rfl (Y.moveI rfl)<|Ops.done rfl<|W.block rfl<|?_; refine W.loop (γ := Nat × Option Addr × Nat) [(10, .pointer _), (107, .slice _ _ _), (108, .int _ _)] (fun x => [(109, .int .i64 (x.1 : Int))]) (fun x w => x.1 ≤ links.length ∧ St w0 F0 w (cellsR p32 (wC p 0 (.slice (some ⟨ub, 0, none⟩) (unL ms).length uc) (.slice x.2.1 ((joinsF (unL ms) ub (jiF (unL ms) ub p.N.toNat core p.N.toNat) (links.take x.1))).length x.2.2)) 86 :: rowR (.slice (some ⟨ub, 0, none⟩) (unL ms).length uc) 96 4 (unL ms).length (flat unC (unL ms)) :: rowR (.slice x.2.1 ((joinsF (unL ms) ub (jiF (unL ms) ub p.N.toNat core p.N.toNat) (links.take x.1))).length x.2.2) 77 2 ((joinsF (unL ms) ub (jiF (unL ms) ub p.N.toNat core p.N.toNat) (links.take x.1))).length (flat pairC ((joinsF (unL ms) ub (jiF (unL ms) ub p.N.toNat core p.N.toNat) (links.take x.1)))) :: cellsR p4 (parC p) 23 :: ((ms).map UM.lres ++ (((ms).map (UM.fres p)).flatten ++ L))) G1) (fun x => links.length - x.1) ((0, A5, c5)) rfl ⟨rfl, rfl, rfl, trivial⟩ ?_ ?_ ?_
                    · exact ⟨rfl, trivial⟩
                    · exact ⟨Nat.zero_le _, hst⟩
                    · clear hst; rintro ⟨k, A5, c5⟩ j w30 ⟨hk2, hst⟩; dsimp only at hk2; have hrl1 := hrl.moreG hG1; refine W.sr rfl<|hst.yb rfl (Y.lss rfl rfl) (fun b110 hb110 => Ops.done rfl<|W.seq rfl<|?_); cases b110
                      · replace hb110 := dF hb110; refine W.condF rfl rfl<|W.exit rfl<|W.sr rfl<|hst.y rfl (Y.moveP rfl)<|hst.y rfl (Y.assignP rfl)<|hst.y rfl (Y.assignI rfl)<|Ops.done rfl<|W.ret rfl<|⟨_, Rslt.two results20 rfl rfl, ?_⟩; obtain rfl : k = links.length := by omega
                        have e0 : links.take links.length = links := List.take_length; rw [e0] at hst; exact ⟨p32, ub, uc, A5, c5, ms, G1, rfl, hpu, hok, hG1, (hst.sub (.cons_cons _ (.cons_cons _ (.cons_cons _ (.cons _ (.refl _))))))⟩
                      · replace hb110 := dT hb110; refine W.condT rfl rfl<|W.skip rfl<|W.seq rfl<|W.block rfl<|W.seq rfl<|?_; have hk1 : k < links.length := by omega
                        have hsl := joinsF_len (unL ms) ub (jiF (unL ms) ub p.N.toNat core p.N.toNat) (links.take k); rw [List.length_take] at hsl; refine W.region rfl<|hst.y rfl (Y.indexAddr underlying25 sizeOf77 rfl rfl ((hrl1.hd.sl hst).ne (flat_pos pairC_len (by decide) (by omega))) (by omega))<|?_; refine hst.y rfl (Y.loadSlA isAgg77 sizeOf77 rfl hrl1.hd (flat_atI pairC_len links k hk1) rfl)<|Ops.ww rfl (X.allocA hst zeroValue77 fun p18 w18 hst => Ops.ww rfl (X.storeS hst 0 sizeOf77 rfl rfl rfl rfl rfl (lZ rfl) rfl rfl fun w31_3 hst => Ops.done rfl<|W.region rfl<|hst.y rfl (Y.moveP rfl)<|hst.y rfl (Y.loadA 0 isAgg77 sizeOf77 rfl rfl rfl rfl)<|Ops.ww rfl (X.call cf28 rfl<|?_))); refine use_call (both_any p32 p 0 ub (unL ms) uc (joinL (unL ms) ub) 1000000 (joinL_len (unL ms) ub) (joinsF (unL ms) ub (jiF (unL ms) ub p.N.toNat core p.N.toNat) (links.take k)) (by omega) A5 c5 links[k] 30 cf30 _ _ _ _ _ (hst.up_3.up_2) (fun l hl A c y w L1 hst => join_any p32 p 0 ub (unL ms) uc l hl A c y hul _ _ _ _ _ hst (Rds.rowM (List.mem_append_right _ (.tail _ (.head _)))))) rfl ?_; clear hst; rintro e w_b ⟨A6, c6, rfl, hst⟩; replace hst := hst.dn2.dn3; refine ⟨_, rfl, ?_⟩; refine Ops.done rfl<|W.region rfl<|hst.y rfl (Y.addI rfl rfl (by omega))<|hst.y rfl (Y.moveI rfl)<|Ops.done rfl<|?_; have hst2 := (hst.dr 1); have e1 := joinsF_snoc (unL ms) ub (jiF (unL ms) ub p.N.toNat core p.N.toNat) links k hk1; exact ⟨(k + 1, A6, c6), ⟨rfl, trivial⟩, ⟨rfl, rfl, rfl, trivial⟩, ⟨by dsimp only; omega, by dsimp only; rw [e1]; exact hst2⟩, by dsimp only; omega⟩
                  · replace hb74 := dT hb74; refine W.condT rfl rfl<|W.skip rfl<|W.seq rfl<|W.block rfl<|W.sr rfl<|hst.y rfl (Y.moveI rfl)<|hst.y rfl (Y.assignI rfl)<|Ops.done rfl<|W.seq rfl<|W.seq rfl<|?_; have hi1 : i < p.N.toNat := by omega
                    have hjl := jiF_len (unL ms) ub p.N.toNat core i; have hjl2 : i * (p.N.toNat + core.length) ≤ 16 * (16 + 1000) := Nat.mul_le_mul (by omega) (by omega); refine W.region rfl<|hst.y rfl (Y.fieldAddr fa23_0 rfl)<|hst.y rfl (Y.load 3 isAgg3 rfl rfl rfl)<|hst.y rfl (Y.moveI rfl)<|Ops.done rfl<|W.block rfl<|?_; refine W.loop (γ := Nat × Option Addr × Nat) [(2, .slice _ _ _), (3, .slice _ _ _), (4, .pointer _), (10, .pointer _), (13, .int _ _), (72, .int _ _), (73, .int _ _), (77, .int _ _)] (fun x => [(78, .int .i64 (x.1 : Int))]) (fun x w => x.1 ≤ p.N.toNat ∧ St w0 F0 w (cellsR p32 (wC p 0 (.slice (some ⟨ub, 0, none⟩) (unL ms).length uc) (.slice x.2.1 ((jkF (unL ms) ub i (jiF (unL ms) ub p.N.toNat core i) x.1)).length x.2.2)) 86 :: rowR (.slice (some ⟨ub, 0, none⟩) (unL ms).length uc) 96 4 (unL ms).length (flat unC (unL ms)) :: rowR (.slice x.2.1 ((jkF (unL ms) ub i (jiF (unL ms) ub p.N.toNat core i) x.1)).length x.2.2) 77 2 ((jkF (unL ms) ub i (jiF (unL ms) ub p.N.toNat core i) x.1)).length (flat pairC ((jkF (unL ms) ub i (jiF (unL ms) ub p.N.toNat core i) x.1))) :: cellsR p4 (parC p) 23 :: ((ms).map UM.lres ++ (((ms).map (UM.fres p)).flatten ++ L))) G1) (fun x => p.N.toNat - x.1) ((0, A5, c5)) rfl ⟨rfl, rfl, rfl, rfl, rfl, rfl, rfl, rfl, trivial⟩ ?_ ?_ ?_
                    · exact ⟨rfl, trivial⟩
                    · exact ⟨Nat.zero_le _, hst⟩
                    · clear hst; rintro ⟨k, A5, c5⟩ j w18 ⟨hk2, hst⟩; dsimp only at hk2; refine W.sr rfl<|hst.yb rfl (Y.lss rfl rfl) (fun b79 hb79 => Ops.done rfl<|W.seq rfl<|?_); cases b79
                      · replace hb79 := dF hb79; refine W.condF rfl rfl<|W.exit rfl<|W.seq rfl<|?_; obtain rfl : k = p.N.toNat := by omega
                        have hkl := jkF_len (unL ms) ub i (jiF (unL ms) ub p.N.toNat core i) p.N.toNat
                        refine W.region rfl<|hst.y rfl (Y.moveS rfl)<|hst.y rfl (Y.lenS underlying24 rfl)<|hst.y rfl (Y.moveI rfl)<|Ops.done rfl<|W.block rfl<|?_; refine W.loop (γ := Nat × Option Addr × Nat) [(2, .slice _ _ _), (3, .slice _ _ _), (4, .pointer _), (10, .pointer _), (13, .int _ _), (72, .int _ _), (73, .int _ _), (87, .slice _ _ _), (88, .int _ _)] (fun x => [(89, .int .i64 (x.1 : Int))]) (fun x w => x.1 ≤ core.length ∧ St w0 F0 w (cellsR p32 (wC p 0 (.slice (some ⟨ub, 0, none⟩) (unL ms).length uc) (.slice x.2.1 ((jcF (unL ms) ub i (jkF (unL ms) ub i (jiF (unL ms) ub p.N.toNat core i) p.N.toNat) (core.take x.1))).length x.2.2)) 86 :: rowR (.slice (some ⟨ub, 0, none⟩) (unL ms).length uc) 96 4 (unL ms).length (flat unC (unL ms)) :: rowR (.slice x.2.1 ((jcF (unL ms) ub i (jkF (unL ms) ub i (jiF (unL ms) ub p.N.toNat core i) p.N.toNat) (core.take x.1))).length x.2.2) 77 2 ((jcF (unL ms) ub i (jkF (unL ms) ub i (jiF (unL ms) ub p.N.toNat core i) p.N.toNat) (core.take x.1))).length (flat pairC ((jcF (unL ms) ub i (jkF (unL ms) ub i (jiF (unL ms) ub p.N.toNat core i) p.N.toNat) (core.take x.1)))) :: cellsR p4 (parC p) 23 :: ((ms).map UM.lres ++ (((ms).map (UM.fres p)).flatten ++ L))) G1) (fun x => core.length - x.1) ((0, A5, c5)) rfl ⟨rfl, rfl, rfl, rfl, rfl, rfl, rfl, rfl, rfl, trivial⟩ ?_ ?_ ?_
                        · exact ⟨rfl, trivial⟩
                        · exact ⟨Nat.zero_le _, hst⟩
                        · clear hst; rintro ⟨k, A5, c5⟩ j w23 ⟨hk2, hst⟩; dsimp only at hk2; have hrc1 := hrc.moreG hG1; refine W.sr rfl<|hst.yb rfl (Y.lss rfl rfl) (fun b90 hb90 => Ops.done rfl<|W.seq rfl<|?_); cases b90
                          · replace hb90 := dF hb90; refine W.condF rfl rfl<|W.exit rfl<|W.region rfl<|hst.y rfl (Y.addI rfl rfl (by omega))<|hst.y rfl (Y.moveI rfl)<|Ops.done rfl<|?_; have hst2 := hst; obtain rfl : k = core.length := by omega
                            have e0 : core.take core.length = core := List.take_length; rw [e0] at hst2; have e1 := jiF_succ (unL ms) ub p.N.toNat core i; exact ⟨(i + 1, A5, c5), ⟨rfl, trivial⟩, ⟨rfl, rfl, rfl, rfl, rfl, trivial⟩, ⟨by dsimp only; omega, by dsimp only; rw [e1]; exact hst2⟩, by dsimp only; omega⟩
                          · replace hb90 := dT hb90; refine W.condT rfl rfl<|W.skip rfl<|W.seq rfl<|W.block rfl<|W.seq rfl<|?_; have hk1 : k < core.length := by omega
                            have hcl2 := jcF_len (unL ms) ub i (jkF (unL ms) ub i (jiF (unL ms) ub p.N.toNat core i) p.N.toNat) (core.take k); rw [List.length_take] at hcl2; refine W.region rfl<|hst.y rfl (Y.indexAddr underlying24 sizeOf3 rfl rfl ((hrc1.hd.sl hst).ne (by simp [ivs]; omega)) (by omega))<|?_; refine hst.y rfl (Y.cast (Y.loadSl isAgg3 rfl hrc1.hd (ivs_get hk1)) (congrArg (Value.int .i64) (show core.getD k 0 = core[k] by simp [hk1]))) ?_; refine hst.y rfl (Y.assignI rfl)<|Ops.ds rfl rfl<|hst.y rfl (Y.moveI rfl)<|hst.yb rfl (Y.geq rfl rfl) (fun b94 hb94 => hst.y rfl (Y.moveB rfl)<|?_); cases b94
                            · replace hb94 := dF hb94; refine Ops.nn rfl<|Ops.nn rfl<|hst.y rfl (Y.pB rfl rfl)<|Ops.done rfl<|W.condF rfl rfl<|W.skip rfl<|W.region rfl<|hst.y rfl (Y.addI rfl rfl (by omega))<|hst.y rfl (Y.moveI rfl)<|Ops.done rfl<|?_; have hst2 := hst; have e1 := (jcF_snoc (unL ms) ub i (jkF (unL ms) ub i (jiF (unL ms) ub p.N.toNat core i) p.N.toNat) core k hk1).trans (if_neg (fun h => hb94 h.1)); exact ⟨(k + 1, A5, c5), ⟨rfl, trivial⟩, ⟨rfl, rfl, rfl, rfl, rfl, rfl, rfl, rfl, rfl, trivial⟩, ⟨by dsimp only; omega, by dsimp only; rw [e1]; exact hst2⟩, by dsimp only; omega⟩
                            · replace hb94 := dT hb94; refine hst.y rfl (Y.moveI rfl)<|hst.yb rfl (Y.lss rfl rfl) (fun b97 hb97 => hst.y rfl (Y.pB rfl rfl)<|Ops.done rfl<|?_); cases b97
                              · replace hb97 := dF hb97; refine W.condF rfl rfl<|W.skip rfl<|W.region rfl<|hst.y rfl (Y.addI rfl rfl (by omega))<|hst.y rfl (Y.moveI rfl)<|Ops.done rfl<|?_; have hst2 := hst; have e1 := (jcF_snoc (unL ms) ub i (jkF (unL ms) ub i (jiF (unL ms) ub p.N.toNat core i) p.N.toNat) core k hk1).trans (if_neg (fun h => hb97 h.2)); exact ⟨(k + 1, A5, c5), ⟨rfl, trivial⟩, ⟨rfl, rfl, rfl, rfl, rfl, rfl, rfl, rfl, rfl, trivial⟩, ⟨by dsimp only; omega, by dsimp only; rw [e1]; exact hst2⟩, by dsimp only; omega⟩
                              · replace hb97 := dT hb97; refine W.condT rfl rfl<|W.region rfl<|hst.y rfl (Y.moveP rfl)<|hst.y rfl (Y.moveI rfl)<|hst.y rfl (Y.moveI rfl)<|hst.y rfl (Y.addI rfl rfl (by omega))<|hst.y rfl (bd77_0_1 rfl)<|Ops.ww rfl (X.call cf30 rfl<|?_); refine use_call (join_any p32 p 0 ub (unL ms) uc (jcF (unL ms) ub i (jkF (unL ms) ub i (jiF (unL ms) ub p.N.toNat core i) p.N.toNat) (core.take k)) (by omega) A5 c5 ((i : Int), 16 + core[k]) hul _ _ _ _ _ hst.up_2.up_1 (Rds.rowL 0 rfl)) rfl ?_; clear hst; rintro e w_j ⟨A6, c6, rfl, hst⟩; replace hst := hst.dn1.dn2; refine ⟨_, rfl, ?_⟩; refine Ops.done rfl<|W.region rfl<|hst.y rfl (Y.addI rfl rfl (by omega))<|hst.y rfl (Y.moveI rfl)<|Ops.done rfl<|?_; have hst2 := hst; have e1 := (jcF_snoc (unL ms) ub i (jkF (unL ms) ub i (jiF (unL ms) ub p.N.toNat core i) p.N.toNat) core k hk1).trans (if_pos ⟨hb94, hb97⟩); exact ⟨(k + 1, A6, c6), ⟨rfl, trivial⟩, ⟨rfl, rfl, rfl, rfl, rfl, rfl, rfl, rfl, rfl, trivial⟩, ⟨by dsimp only; omega, by dsimp only; rw [e1]; exact hst2⟩, by dsimp only; omega⟩
                      · replace hb79 := dT hb79; refine W.condT rfl rfl<|W.skip rfl<|W.seq rfl<|W.block rfl<|W.sr rfl<|hst.y rfl (Y.moveI rfl)<|hst.y rfl (Y.assignI rfl)<|Ops.done rfl<|?_; have hk1 : k < p.N.toNat := by omega
                        have hkl := jkF_len (unL ms) ub i (jiF (unL ms) ub p.N.toNat core i) k; refine W.region rfl<|hst.y rfl (Y.moveP rfl)<|hst.y rfl (Y.moveI rfl)<|hst.y rfl (Y.moveI rfl)<|hst.y rfl (bd77_0_1 rfl)<|Ops.ww rfl (X.call cf30 rfl<|?_); refine use_call (join_any p32 p 0 ub (unL ms) uc (jkF (unL ms) ub i (jiF (unL ms) ub p.N.toNat core i) k) (by omega) A5 c5 ((i : Int), (k : Int)) hul _ _ _ _ _ hst.up_2.up_1 (Rds.rowL 0 rfl)) rfl ?_; clear hst; rintro e w_j ⟨A6, c6, rfl, hst⟩; replace hst := hst.dn1.dn2; refine ⟨_, rfl, ?_⟩; refine Ops.done rfl<|W.region rfl<|hst.y rfl (Y.addI rfl rfl (by omega))<|hst.y rfl (Y.moveI rfl)<|Ops.done rfl<|?_; have hst2 := hst; have e1 := jkF_succ (unL ms) ub i (jiF (unL ms) ub p.N.toNat core i) k; exact ⟨(k + 1, A6, c6), ⟨rfl, trivial⟩, ⟨rfl, rfl, rfl, rfl, rfl, rfl, rfl, rfl, trivial⟩, ⟨by dsimp only; omega, by dsimp only; rw [e1]; exact hst2⟩, by dsimp only; omega⟩
              · replace hb54 := dT hb54; refine W.condT rfl rfl<|W.skip rfl<|W.seq rfl<|W.block rfl<|W.seq rfl<|?_; have hk1 : k < nodes := by omega
                have hml : (unL ms).length = p.N.toNat + k := by have h1 := congrArg List.length hpu; unfold puL gatesP nodesP at h1; unfold unL; rw [List.length_map] at h1 ⊢; rw [h1]; simp
                refine W.region rfl<|hst.y rfl (Y.moveI rfl)<|hst.y rfl (Y.assignI rfl)<|Ops.done rfl<|W.drawn rfl (by kernel_rfl) (Ctx _ _ ([cellsR p32 (wC p 0 (.slice A5 (unL ms).length c5) (.slice none 0 0)) 86]) (G1)) [14] (.op 0 0 (.op 1 0 (.op 2 0 (.op 3 0 (.op 4 0 (.op 5 0 (.op 6 0 (.op 7 0 (.op 8 0 (.op 9 1 (.op 10 1 (.op 11 1 (.op 12 0 (.op 13 0 (.op 14 1 .nil))))))))))))))) rfl (by kernel_rfl) (Ctx.of_mem hst.drew (by first | exact .head _ | exact .tail _ (.head _)) (by first | exact fun r hr => hr | exact hG2))<|?_; replace hst := hst.drew; generalize World.drew _ = wd at hst ⊢; refine Drw.q rfl (Ctx.of_mem hst (by first | exact .head _ | exact .tail _ (.head _)) (by first | exact fun r hr => hr | exact hG2)) (Y.moveP rfl) ?_; refine Drw.q rfl (Ctx.of_mem hst (by first | exact .head _ | exact .tail _ (.head _)) (by first | exact fun r hr => hr | exact hG2)) (Y.moveP rfl) ?_; refine Drw.q rfl (Ctx.of_mem hst (by first | exact .head _ | exact .tail _ (.head _)) (by first | exact fun r hr => hr | exact hG2)) (Y.nilCheck rfl) ?_; refine Drw.q rfl (Ctx.of_mem hst (by first | exact .head _ | exact .tail _ (.head _)) (by first | exact fun r hr => hr | exact hG2)) (Y.fieldAddr fa86_2 rfl) ?_; refine Drw.q rfl (Ctx.of_mem hst (by first | exact .head _ | exact .tail _ (.head _)) (by first | exact fun r hr => hr | exact hG2)) (Y.load 0 isAgg84 rfl rfl rfl) ?_; refine Drw.q rfl (Ctx.of_mem hst (by first | exact .head _ | exact .tail _ (.head _)) (by first | exact fun r hr => hr | exact hG2)) (Y.moveP rfl) ?_; refine Drw.q rfl (Ctx.of_mem hst (by first | exact .head _ | exact .tail _ (.head _)) (by first | exact fun r hr => hr | exact hG2)) (Y.moveI rfl) ?_; refine Drw.q rfl (Ctx.of_mem hst (by first | exact .head _ | exact .tail _ (.head _)) (by first | exact fun r hr => hr | exact hG2)) (Y.addI rfl rfl (by omega)) ?_; refine Drw.q rfl (Ctx.of_mem hst (by first | exact .head _ | exact .tail _ (.head _)) (by first | exact fun r hr => hr | exact hG2)) (bd57_ rfl) ?_; refine Drw.ww rfl (X.call cf49 rfl ?_); refine use_call (fresh_any p32 p 0 _ _ hp (16 + (k : Int)) S00 none 0 (goodTab_fit goodTab_nil) _ _ _ _ _ hst (hrn.moreG hG1)) rfl ?_; clear hst; rintro e w65 ⟨m, G2, rfl, hmu, hG2, hmok, hst⟩; replace hst := St.newU (S := [_, _, _]) (M := ms.map UM.lres) (FF := ms.map (UM.fres p)) (F := m.fres p) (L := L) hst; refine ⟨_, rfl, ⟨(Ctx.of_mem hst (by first | exact .head _ | exact .tail _ (.head _)) (by first | exact fun r hr => hr | exact hG2)), ?_⟩⟩; refine Drw.ww rfl (X.lit1 hst underlying84 sizeOf96 zeroValue96 rfl rfl rfl fun p66 w66 hst => ⟨(Ctx.of_mem hst (by first | exact .head _ | exact .tail _ (.head _)) (by first | exact fun r hr => hr | exact hG2)), ?_⟩); refine Drw.ww rfl (X.app hst 2 0 underlying84 info96 rfl rfl rfl rfl rfl rfl rfl rfl (by (try dsimp only); unfold maxLen; omega) (by (try dsimp only); omega) fun A67 c67 w67 hst => ⟨(Ctx.of_mem hst (by first | exact .head _ | exact .tail _ (.head _)) (by first | exact fun r hr => hr | exact hG2)), ?_⟩); refine Drw.q rfl (Ctx.of_mem hst (by first | exact .head _ | exact .tail _ (.head _)) (by first | exact fun r hr => hr | exact hG2)) (Y.nilCheck rfl) ?_; refine Drw.q rfl (Ctx.of_mem hst (by first | exact .head _ | exact .tail _ (.head _)) (by first | exact fun r hr => hr | exact hG2)) (Y.fieldAddr fa86_2 rfl) ?_; refine Drw.z rfl rfl rfl rfl (X.storeV hst 1 (.slice _ _ _) sizeOf84 rfl rfl rfl rfl (lZ rfl) rfl rfl fun w12_14 hst => Drw.done<|W.region rfl<|hst.y rfl (Y.addI rfl rfl (by omega))<|hst.y rfl (Y.moveI rfl)<|Ops.done rfl<|?_); have hst2 := (hst.dr 1); have e1 : unL (ms ++ [m]) = unL ms ++ [m.un] := by unfold unL; rw [List.map_append]; rfl
                have e2 : flat unC (unL ms ++ [m.un]) = flat unC (unL ms) ++ unC m.un := by rw [flat_append]; simp [flat]
                have e3 : (unL ms ++ [m.un]).length = (unL ms).length + 1 := by simp
                have e4 : (ms ++ [m]).map UM.lres = ms.map UM.lres ++ [m.lres] := by rw [List.map_append]; rfl
                have e5 : (ms ++ [m]).map (UM.fres p) = ms.map (UM.fres p) ++ [m.fres p] := by rw [List.map_append]; rfl
                have e6 : puL (ms ++ [m]) = puL ms ++ [m.u] := by unfold puL; rw [List.map_append]; rfl
                refine ⟨(k + 1, ms ++ [m], A67, c67, G2), ⟨rfl, trivial⟩, ⟨rfl, rfl, rfl, rfl, rfl, trivial⟩, ⟨⟨by dsimp only; omega, ?_, ?_, fun r hr => hG2 r (hG1 r hr)⟩, ?_⟩, by dsimp only; omega⟩
                · dsimp only; rw [e6, hmu, hpu, nodesP_succ, List.append_assoc]
                · intro x hx; rcases List.mem_append.1 hx with hx | hx
                  · exact (hok x hx).mono hG2
                  · rw [List.mem_singleton] at hx; subst hx; exact hmok
                · dsimp only; rw [e1, e2, e3, e4, e5]; exact hst2
          · replace hb36 := dT hb36; refine W.condT rfl rfl<|W.skip rfl<|W.seq rfl<|W.block rfl<|W.seq rfl<|?_; have hk1 : k < p.N.toNat := by omega
            have hml : (unL ms).length = k := by have h1 := congrArg List.length hpu; unfold puL gatesP at h1; unfold unL; rw [List.length_map] at h1 ⊢; rw [h1]; simp
            refine W.region rfl<|hst.y rfl (Y.moveI rfl)<|hst.y rfl (Y.assignI rfl)<|Ops.done rfl<|W.drawn rfl (by kernel_rfl) (Ctx _ _ ([cellsR p32 (wC p 0 (.slice A5 (unL ms).length c5) (.slice none 0 0)) 86]) (G1)) [13] (.op 0 0 (.op 1 0 (.op 2 0 (.op 3 0 (.op 4 0 (.op 5 0 (.op 6 0 (.op 7 0 (.op 8 1 (.op 9 1 (.op 10 1 (.op 11 0 (.op 12 0 (.op 13 1 .nil)))))))))))))) rfl (by kernel_rfl) (Ctx.of_mem hst.drew (by first | exact .head _ | exact .tail _ (.head _)) (by first | exact fun r hr => hr | exact hG2))<|?_; replace hst := hst.drew; generalize World.drew _ = wd at hst ⊢; refine Drw.q rfl (Ctx.of_mem hst (by first | exact .head _ | exact .tail _ (.head _)) (by first | exact fun r hr => hr | exact hG2)) (Y.moveP rfl) ?_; refine Drw.q rfl (Ctx.of_mem hst (by first | exact .head _ | exact .tail _ (.head _)) (by first | exact fun r hr => hr | exact hG2)) (Y.moveP rfl) ?_; refine Drw.q rfl (Ctx.of_mem hst (by first | exact .head _ | exact .tail _ (.head _)) (by first | exact fun r hr => hr | exact hG2)) (Y.nilCheck rfl) ?_; refine Drw.q rfl (Ctx.of_mem hst (by first | exact .head _ | exact .tail _ (.head _)) (by first | exact fun r hr => hr | exact hG2)) (Y.fieldAddr fa86_2 rfl) ?_; refine Drw.q rfl (Ctx.of_mem hst (by first | exact .head _ | exact .tail _ (.head _)) (by first | exact fun r hr => hr | exact hG2)) (Y.load 0 isAgg84 rfl rfl rfl) ?_; refine Drw.q rfl (Ctx.of_mem hst (by first | exact .head _ | exact .tail _ (.head _)) (by first | exact fun r hr => hr | exact hG2)) (Y.moveP rfl) ?_; refine Drw.q rfl (Ctx.of_mem hst (by first | exact .head _ | exact .tail _ (.head _)) (by first | exact fun r hr => hr | exact hG2)) (Y.moveI rfl) ?_; refine Drw.q rfl (Ctx.of_mem hst (by first | exact .head _ | exact .tail _ (.head _)) (by first | exact fun r hr => hr | exact hG2)) (bd57_ rfl) ?_; refine Drw.ww rfl (X.call cf49 rfl ?_); refine use_call (fresh_any p32 p 0 _ _ hp ((k : Int)) S00 none 0 (goodTab_fit goodTab_nil) _ _ _ _ _ hst (hrn.moreG hG1)) rfl ?_; clear hst; rintro e w46 ⟨m, G2, rfl, hmu, hG2, hmok, hst⟩; replace hst := St.newU (S := [_, _, _]) (M := ms.map UM.lres) (FF := ms.map (UM.fres p)) (F := m.fres p) (L := L) hst; refine ⟨_, rfl, ⟨(Ctx.of_mem hst (by first | exact .head _ | exact .tail _ (.head _)) (by first | exact fun r hr => hr | exact hG2)), ?_⟩⟩; refine Drw.ww rfl (X.lit1 hst underlying84 sizeOf96 zeroValue96 rfl rfl rfl fun p47 w47 hst => ⟨(Ctx.of_mem hst (by first | exact .head _ | exact .tail _ (.head _)) (by first | exact fun r hr => hr | exact hG2)), ?_⟩); refine Drw.ww rfl (X.app hst 2 0 underlying84 info96 rfl rfl rfl rfl rfl rfl rfl rfl (by (try dsimp only); unfold maxLen; omega) (by (try dsimp only); omega) fun A48 c48 w48 hst => ⟨(Ctx.of_mem hst (by first | exact .head _ | exact .tail _ (.head _)) (by first | exact fun r hr => hr | exact hG2)), ?_⟩); refine Drw.q rfl (Ctx.of_mem hst (by first | exact .head _ | exact .tail _ (.head _)) (by first | exact fun r hr => hr | exact hG2)) (Y.nilCheck rfl) ?_; refine Drw.q rfl (Ctx.of_mem hst (by first | exact .head _ | exact .tail _ (.head _)) (by first | exact fun r hr => hr | exact hG2)) (Y.fieldAddr fa86_2 rfl) ?_; refine Drw.z rfl rfl rfl rfl (X.storeV hst 1 (.slice _ _ _) sizeOf84 rfl rfl rfl rfl (lZ rfl) rfl rfl fun w7_13 hst => Drw.done<|W.region rfl<|hst.y rfl (Y.addI rfl rfl (by omega))<|hst.y rfl (Y.moveI rfl)<|Ops.done rfl<|?_); have hst2 := (hst.dr 1); have e1 : unL (ms ++ [m]) = unL ms ++ [m.un] := by unfold unL; rw [List.map_append]; rfl
            have e2 : flat unC (unL ms ++ [m.un]) = flat unC (unL ms) ++ unC m.un := by rw [flat_append]; simp [flat]
            have e3 : (unL ms ++ [m.un]).length = (unL ms).length + 1 := by simp
            have e4 : (ms ++ [m]).map UM.lres = ms.map UM.lres ++ [m.lres] := by rw [List.map_append]; rfl
            have e5 : (ms ++ [m]).map (UM.fres p) = ms.map (UM.fres p) ++ [m.fres p] := by rw [List.map_append]; rfl
            have e6 : puL (ms ++ [m]) = puL ms ++ [m.u] := by unfold puL; rw [List.map_append]; rfl
            refine ⟨(k + 1, ms ++ [m], A48, c48, G2), ⟨rfl, trivial⟩, ⟨rfl, rfl, rfl, rfl, rfl, rfl, trivial⟩, ⟨⟨by dsimp only; omega, ?_, ?_, fun r hr => hG2 r (hG1 r hr)⟩, ?_⟩, by dsimp only; omega⟩
            · dsimp only; rw [e6, hmu, hpu, gatesP_succ]
            · intro x hx; rcases List.mem_append.1 hx with hx | hx
              · exact (hok x hx).mono hG2
              · rw [List.mem_singleton] at hx; subst hx; exact hmok
            · dsimp only; rw [e1, e2, e3, e4, e5]; exact hst2
      · replace hb28 := dT hb28; exfalso; omega
    · replace hb24 := dT hb24; exfalso; omega
  · replace hb21 := dT hb21; exact absurd rfl hb21
end Go.Proofs.YtaanjifekgfemaaGreat.Cl
end
section
namespace Go.Proofs.YtaanjifekgfemaaGreat.Cl
open Tryz
open Go.RowKit Go.Proofs.YtaanjifekgfemaaGreat.K Go.Proofs.YtaanjifekgfemaaGreat.W Go.Proofs.YtaanjifekgfemaaGreat.LN
structure Sd where
  s : Stt
  A : Option Addr
  cap : Nat
def sdC (x : Sd) : List Value := sttC x.s x.A x.cap
theorem sdC_len (x : Sd) : (sdC x).length = 11 := rfl
structure Cs where
  p : Par
  time : Int
  nodes : Int
  core : List Int
  links : List (Int × Int)
  states : List Sd
  frames : List Li
  noise : List Int
  lies : List ByteArray
  a3 : Sla
  a4 : Sla
  a5 : Sla
  a6 : Sla
  a7 : Sla
  a8 : Sla
def csC (c : Cs) : List Value := parC c.p ++ [.int .i64 c.time, .int .i64 c.nodes, .slice c.a3.1 c.core.length c.a3.2, .slice c.a4.1 c.links.length c.a4.2, .slice c.a5.1 c.states.length c.a5.2, .slice c.a6.1 c.frames.length c.a6.2, .slice c.a7.1 c.noise.length c.a7.2, .slice c.a8.1 c.lies.length c.a8.2]
structure Cs.In (G : List Res) (c : Cs) : Prop where
  core : Rds [] G (.slice c.a3.1 c.core.length c.a3.2) c.core.length (ivs c.core)
  links : Rds [] G (.slice c.a4.1 c.links.length c.a4.2) c.links.length (flat pairC c.links)
  states : Rds [] G (.slice c.a5.1 c.states.length c.a5.2) c.states.length (flat sdC c.states)
  frames : Rds [] G (.slice c.a6.1 c.frames.length c.a6.2) c.frames.length (flat liC c.frames)
  noise : Rds [] G (.slice c.a7.1 c.noise.length c.a7.2) c.noise.length (ivs c.noise)
  lies : Rds [] G (.slice c.a8.1 c.lies.length c.a8.2) c.lies.length (strC c.lies)
  tabs : ∀ x ∈ c.states, (∀ y ∈ x.s.tab, In64 y.1 ∧ In64 y.2) ∧ Rds [] G (.slice x.A x.s.tab.length x.cap) x.s.tab.length (lcs x.s.tab)
  sizes : (∀ x ∈ c.frames, x.text.size ≤ 140737488355328) ∧ ∀ x ∈ c.lies, x.size ≤ 140737488355328
theorem Cs.In.mono {G G' : List Res} {c : Cs} (h : c.In G) (hG : ∀ r ∈ G, r ∈ G') : c.In G' :=
  ⟨h.core.moreG hG, h.links.moreG hG, h.states.moreG hG, h.frames.moreG hG, h.noise.moreG hG, h.lies.moreG hG, fun x hx => ⟨(h.tabs x hx).1, (h.tabs x hx).2.moreG hG⟩, h.sizes⟩
structure Cs.Small (c : Cs) (beats : Int) : Prop where
  ok : c.p.Ok
  N : c.p.N ≤ 7
  D : c.p.D ≤ 5
  nodes : 0 ≤ c.nodes ∧ c.nodes ≤ 6
  time : -1125899906842624 ≤ c.time ∧ c.time ≤ 1125899906842624
  beats : 0 ≤ beats ∧ beats ≤ 30
  settle : settle c.p ≤ 80
  core : c.core.length ≤ 20
  links : c.links.length ≤ 40
  states : c.states.length ≤ 20
  frames : c.frames.length ≤ 40
  noise : c.noise.length ≤ 1000
  lies : c.lies.length ≤ 40
  tabs : ∀ x ∈ c.states, x.s.tab.length ≤ 128
  texts : (∀ x ∈ c.frames, x.text.size ≤ 65536) ∧ ∀ x ∈ c.lies, x.size ≤ 65536
def sizes (l : List Nat) : Nat := l.foldl (· + ·) 0
end Go.Proofs.YtaanjifekgfemaaGreat.Cl
end
section
namespace Go.Proofs.YtaanjifekgfemaaGreat.Cl
open Tryz
open Go.RowKit Go.Proofs.YtaanjifekgfemaaGreat.K Go.Proofs.YtaanjifekgfemaaGreat.W Go.Proofs.YtaanjifekgfemaaGreat.LN
attribute [local irreducible] bound clip adds sub neg mag mulp mul maxs
theorem fa30_0 : FA 30 0 0 := fun _ _ => by simp [Instr.fieldAt, Instr.sureAddr, go_sem]
theorem fa30_1 : FA 30 1 12 := fun _ _ => by simp [Instr.fieldAt, Instr.sureAddr, go_sem]
theorem fa30_2 : FA 30 2 13 := fun _ _ => by simp [Instr.fieldAt, Instr.sureAddr, go_sem]
theorem fa30_3 : FA 30 3 14 := fun _ _ => by simp [Instr.fieldAt, Instr.sureAddr, go_sem]
theorem fa30_4 : FA 30 4 15 := fun _ _ => by simp [Instr.fieldAt, Instr.sureAddr, go_sem]
theorem fa30_5 : FA 30 5 16 := fun _ _ => by simp [Instr.fieldAt, Instr.sureAddr, go_sem]
theorem fa30_6 : FA 30 6 17 := fun _ _ => by simp [Instr.fieldAt, Instr.sureAddr, go_sem]
theorem fa30_7 : FA 30 7 18 := fun _ _ => by simp [Instr.fieldAt, Instr.sureAddr, go_sem]
theorem fa30_8 : FA 30 8 19 := fun _ _ => by simp [Instr.fieldAt, Instr.sureAddr, go_sem]
theorem cf23 : CF 23 := fun _ _ => by simp [go_sem]
set_option maxHeartbeats 4000000 in
theorem great_any (c : Cs) (beats : Int) (w0 w : World) (F0 : List Nat) (L G : List Res) (hst : St w0 F0 w L G) (hin : c.In G) :
    Calls Tryz.prog 7 #[.agg (csC c).toArray, .int .i64 beats] w fun e w' => ∃ b, e = .returned (.bool b) ∧ (b = false → c.Small beats) ∧ St w0 F0 w' L G := by
  refine W.func func7 rfl ntmps7 rfl<|W.sr rfl<|Ops.ww rfl (X.boxA hst rfl fun p2 w2 hst => hst.y rfl (Y.assignB rfl)<|Ops.ds rfl rfl<|hst.y rfl (Y.fieldAddr fa30_0 rfl)<|hst.y rfl (Y.loadA 0 isAgg23 sizeOf23 rfl rfl rfl rfl)<|Ops.ww rfl (X.allocA hst zeroValue23 fun p5 w5 hst => Ops.ww rfl (X.storeS hst 0 sizeOf23 rfl rfl rfl rfl rfl (lZ rfl) rfl rfl fun w1_3 hst => Ops.done rfl<|W.seq rfl<|W.seq rfl<|?_))); refine W.cut [(2, .pointer _)] (fun x : Bool => [(60, .bool x)]) (fun x w => (x = false → c.p.Ok ∧ c.p.N ≤ 7 ∧ c.p.D ≤ 5 ∧ (0 ≤ c.nodes ∧ c.nodes ≤ 6) ∧ (-1125899906842624 ≤ c.time ∧ c.time ≤ 1125899906842624) ∧ (0 ≤ beats ∧ beats ≤ 30) ∧ settle c.p ≤ 80) ∧ St w0 F0 w (cellsR p5 (parC c.p) 23 :: cellsR p2 (csC c) 30 :: L) G) ⟨rfl, trivial⟩ ?_ ?_
  rotate_left
  · clear hst; rintro b60 j w60 ⟨hb60', hst⟩; have hb60 : b60 = decide (b60 = true) := by (cases b60 <;> rfl)
    cases b60
    · replace hb60 := dF hb60; refine W.condF rfl rfl<|W.skip rfl<|W.seq rfl<|W.seq rfl<|?_; obtain ⟨hok, hN, hD, hnd, htm, hbt, hse⟩ := hb60' rfl; refine W.cut [(2, .pointer _)] (fun x : Bool => [(94, .bool x)]) (fun x w => (x = false → c.core.length ≤ 20 ∧ c.links.length ≤ 40 ∧ c.states.length ≤ 20 ∧ c.frames.length ≤ 40 ∧ c.noise.length ≤ 1000 ∧ c.lies.length ≤ 40) ∧ St w0 F0 w (cellsR p5 (parC c.p) 23 :: cellsR p2 (csC c) 30 :: L) G) ⟨rfl, trivial⟩ ?_ ?_
      rotate_left
      · clear hst; rintro b94 j w94 ⟨hb94', hst⟩; have hb94 : b94 = decide (b94 = true) := by (cases b94 <;> rfl)
        cases b94
        · replace hb94 := dF hb94; refine W.condF rfl rfl<|W.skip rfl<|W.seq rfl<|W.seq rfl<|?_; obtain ⟨l3, l4, l5, l6, l7, l8⟩ := hb94' rfl; refine W.region rfl<|hst.y rfl (Y.fieldAddr fa30_5 rfl)<|hst.y rfl (Y.load 1 isAgg26 rfl rfl rfl)<|hst.y rfl (Y.lenS underlying26 rfl)<|hst.y rfl (Y.moveI rfl)<|Ops.done rfl<|W.block rfl<|?_; refine W.loop (γ := Nat) [(2, .pointer _), (96, .slice _ _ _), (97, .int _ _)] (fun k => [(98, .int .i64 (k : Int))]) (fun k w => (k ≤ c.states.length ∧ ∀ j (h : j < c.states.length), j < k → c.states[j].s.tab.length ≤ 128) ∧ St w0 F0 w (cellsR p5 (parC c.p) 23 :: cellsR p2 (csC c) 30 :: L) G) (fun k => c.states.length - k) (0) rfl ⟨rfl, rfl, rfl, trivial⟩ ?_ ?_ ?_
          · exact ⟨rfl, trivial⟩
          · exact ⟨⟨by omega, fun j _ h => by omega⟩, hst⟩
          · clear hst; rintro k j w7 ⟨⟨hk, ht⟩, hst⟩; refine W.sr rfl<|hst.yb rfl (Y.lss rfl rfl) (fun b99 hb99 => Ops.done rfl<|W.seq rfl<|?_); cases b99
            · replace hb99 := dF hb99; refine W.condF rfl rfl<|W.exit rfl<|W.sr rfl<|hst.y rfl (Y.assignI rfl)<|Ops.done rfl<|W.seq rfl<|W.sr rfl<|hst.y rfl (Y.fieldAddr fa30_6 rfl)<|hst.y rfl (Y.load 1 isAgg27 rfl rfl rfl)<|hst.y rfl (Y.lenS underlying27 rfl)<|hst.y rfl (Y.moveI rfl)<|Ops.done rfl<|W.block rfl<|?_; refine W.loop (γ := Nat × Int) [(2, .pointer _), (108, .slice _ _ _), (109, .int _ _)] (fun x => [(110, .int .i64 (x.1 : Int)), (8, .int .i64 x.2)]) (fun x w => (x.1 ≤ c.frames.length ∧ (0 ≤ x.2 ∧ x.2 ≤ 65536) ∧ ∀ j (h : j < c.frames.length), j < x.1 → c.frames[j].text.size ≤ 65536) ∧ St w0 F0 w (cellsR p5 (parC c.p) 23 :: cellsR p2 (csC c) 30 :: L) G) (fun x => c.frames.length - x.1) ((0, 0)) rfl ⟨rfl, rfl, rfl, trivial⟩ ?_ ?_ ?_
              · exact ⟨rfl, rfl, trivial⟩
              · exact ⟨⟨Nat.zero_le _, by decide, fun j _ h => absurd h (Nat.not_lt_zero _)⟩, hst⟩
              · clear hst; rintro ⟨k, n⟩ j w14 ⟨⟨hk, hn, hf⟩, hst⟩; dsimp only at hk hn hf; refine W.sr rfl<|hst.yb rfl (Y.lss rfl rfl) (fun b111 hb111 => Ops.done rfl<|W.seq rfl<|?_); cases b111
                · replace hb111 := dF hb111; refine W.condF rfl rfl<|W.exit rfl<|W.seq rfl<|W.sr rfl<|hst.y rfl (Y.fieldAddr fa30_8 rfl)<|hst.y rfl (Y.load 1 isAgg28 rfl rfl rfl)<|hst.y rfl (Y.lenS underlying28 rfl)<|hst.y rfl (Y.moveI rfl)<|Ops.done rfl<|W.block rfl<|?_; refine W.loop (γ := Nat × Int) [(123, .slice _ _ _), (124, .int _ _)] (fun x => [(125, .int .i64 (x.1 : Int)), (8, .int .i64 x.2)]) (fun x w => (x.1 ≤ c.lies.length ∧ (0 ≤ x.2 ∧ x.2 ≤ 65536) ∧ ∀ j (h : j < c.lies.length), j < x.1 → c.lies[j].size ≤ 65536) ∧ St w0 F0 w (cellsR p5 (parC c.p) 23 :: cellsR p2 (csC c) 30 :: L) G) (fun x => c.lies.length - x.1) ((0, n)) rfl ⟨rfl, rfl, trivial⟩ ?_ ?_ ?_
                  · exact ⟨rfl, rfl, trivial⟩
                  · exact ⟨⟨Nat.zero_le _, hn, fun j _ h => absurd h (Nat.not_lt_zero _)⟩, hst⟩
                  · clear hst; rintro ⟨k2, n2⟩ j w21 ⟨⟨hk2, hn2, hf2⟩, hst⟩; dsimp only at hk2 hn2 hf2; refine W.sr rfl<|hst.yb rfl (Y.lss rfl rfl) (fun b126 hb126 => Ops.done rfl<|W.seq rfl<|?_); cases b126
                    · replace hb126 := dF hb126; refine W.condF rfl rfl<|W.exit rfl<|W.sr rfl<|hst.y rfl (Y.assignB rfl)<|Ops.done rfl<|W.ret rfl<|⟨_, Rslt.one results7 rfl, ?_⟩
                      first
                      | exact ⟨true, rfl, (fun h => by cases h), (hst.dr 2)⟩
                      | (refine ⟨false, rfl, fun _ => ⟨hok, hN, hD, hnd, htm, hbt, hse, l3, l4, l5, l6, l7, l8, ?_, ?_, ?_⟩, (hst.dr 2)⟩
                         · intro x hx; obtain ⟨j, hj, rfl⟩ := List.getElem_of_mem hx; exact ht j hj (by omega)
                         · intro x hx; obtain ⟨j, hj, rfl⟩ := List.getElem_of_mem hx; exact hf j hj (by dsimp only at *; omega)
                         · intro x hx; obtain ⟨j, hj, rfl⟩ := List.getElem_of_mem hx
                           exact hf2 j hj (by dsimp only at *; omega))
                    · replace hb126 := dT hb126; refine W.condT rfl rfl<|W.skip rfl<|W.seq rfl<|W.block rfl<|W.seq rfl<|?_; have hk1 : k2 < c.lies.length := by omega
                      have hsz := hin.sizes.2 _ (List.getElem_mem hk1); refine W.region rfl<|hst.y rfl (Y.indexAddr underlying28 sizeOf9 rfl rfl ((hin.lies.hd.sl hst).ne (by simp [strC]; omega)) (by omega))<|?_; refine hst.y rfl (Y.loadSl isAgg9 rfl hin.lies.hd (strC_get (k := k2) hk1))<|hst.y rfl (Y.assignT rfl)<|Ops.ds rfl rfl<|hst.y rfl (Y.moveI rfl)<|hst.y rfl (Y.moveT rfl)<|hst.y rfl (Y.lenT underlying9 rfl)<|hst.y rfl (Y.addI rfl rfl (by dsimp only; omega))<|?_; refine hst.y rfl (Y.assignI rfl)<|Ops.ds rfl rfl<|hst.y rfl (Y.moveI rfl)<|hst.yb rfl (Y.gtr rfl rfl) (fun b134 hb134 => Ops.done rfl<|?_); cases b134
                      · replace hb134 := dF hb134; refine W.condF rfl rfl<|W.skip rfl<|W.region rfl<|hst.y rfl (Y.addI rfl rfl (by omega))<|hst.y rfl (Y.moveI rfl)<|Ops.done rfl<|?_; refine ⟨(k2 + 1, n2 + c.lies[k2].size), ⟨rfl, rfl, trivial⟩, ⟨rfl, rfl, trivial⟩, ⟨⟨by dsimp only; omega, by dsimp only at hb134 ⊢; omega, fun j hj h => ?_⟩, hst⟩, by dsimp only; omega⟩; dsimp only at h hb134; rcases (show j < k2 ∨ j = k2 by omega) with h | rfl
                        · exact hf2 j hj h
                        · omega
                      · replace hb134 := dT hb134; refine W.condT rfl rfl<|W.sr rfl<|hst.y rfl (Y.assignB rfl)<|Ops.done rfl<|W.ret rfl<|⟨_, Rslt.one results7 rfl, ?_⟩
                        first
                        | exact ⟨true, rfl, (fun h => by cases h), (hst.dr 2)⟩
                        | (refine ⟨false, rfl, fun _ => ⟨hok, hN, hD, hnd, htm, hbt, hse, l3, l4, l5, l6, l7, l8, ?_, ?_, ?_⟩, (hst.dr 2)⟩
                           · intro x hx; obtain ⟨j, hj, rfl⟩ := List.getElem_of_mem hx; exact ht j hj (by omega)
                           · intro x hx; obtain ⟨j, hj, rfl⟩ := List.getElem_of_mem hx; exact hf j hj (by dsimp only at *; omega)
                           · intro x hx; obtain ⟨j, hj, rfl⟩ := List.getElem_of_mem hx
                             exact hf2 j hj (by dsimp only at *; omega))
                · replace hb111 := dT hb111; refine W.condT rfl rfl<|W.skip rfl<|W.seq rfl<|W.block rfl<|W.seq rfl<|?_; have hk1 : k < c.frames.length := by omega
                  have hsz := hin.sizes.1 _ (List.getElem_mem hk1); refine W.region rfl<|hst.y rfl (Y.indexAddr underlying27 sizeOf79 rfl rfl ((hin.frames.hd.sl hst).ne (flat_pos liC_len (by decide) (by omega))) (by omega))<|?_; refine hst.y rfl (Y.loadSlA isAgg79 sizeOf79 rfl hin.frames.hd (flat_atI liC_len c.frames k hk1) rfl)<|Ops.ww rfl (X.allocA hst zeroValue79 fun p10 w10 hst => Ops.ww rfl (X.storeS hst 0 sizeOf79 rfl rfl rfl rfl rfl (lZ rfl) rfl rfl fun w15_3 hst => Ops.ds rfl rfl<|hst.y rfl (Y.moveI rfl)<|hst.y rfl (Y.fieldAddr fa79_1 rfl)<|hst.y rfl (Y.load 0 isAgg9 rfl rfl rfl)<|hst.y rfl (Y.lenT underlying9 rfl)<|hst.y rfl (Y.addI rfl rfl (by dsimp only; omega))<|?_)); refine hst.y rfl (Y.assignI rfl)<|Ops.ds rfl rfl<|hst.y rfl (Y.moveI rfl)<|hst.yb rfl (Y.gtr rfl rfl) (fun b120 hb120 => Ops.done rfl<|?_); cases b120
                  · replace hb120 := dF hb120; refine W.condF rfl rfl<|W.skip rfl<|W.region rfl<|hst.y rfl (Y.addI rfl rfl (by omega))<|hst.y rfl (Y.moveI rfl)<|Ops.done rfl<|?_; refine ⟨(k + 1, n + c.frames[k].text.size), ⟨rfl, rfl, trivial⟩, ⟨rfl, rfl, rfl, trivial⟩, ⟨⟨by dsimp only; omega, by dsimp only at hb120 ⊢; omega, fun j hj h => ?_⟩, (hst.dr 1)⟩, by dsimp only; omega⟩; dsimp only at h hb120; rcases (show j < k ∨ j = k by omega) with h | rfl
                    · exact hf j hj h
                    · omega
                  · replace hb120 := dT hb120; refine W.condT rfl rfl<|W.sr rfl<|hst.y rfl (Y.assignB rfl)<|Ops.done rfl<|W.ret rfl<|⟨_, Rslt.one results7 rfl, ?_⟩
                    first
                    | exact ⟨true, rfl, (fun h => by cases h), (hst.dr 3)⟩
                    | (refine ⟨false, rfl, fun _ => ⟨hok, hN, hD, hnd, htm, hbt, hse, l3, l4, l5, l6, l7, l8, ?_, ?_, ?_⟩, (hst.dr 3)⟩
                       · intro x hx; obtain ⟨j, hj, rfl⟩ := List.getElem_of_mem hx; exact ht j hj (by omega)
                       · intro x hx; obtain ⟨j, hj, rfl⟩ := List.getElem_of_mem hx; exact hf j hj (by dsimp only at *; omega)
                       · intro x hx; obtain ⟨j, hj, rfl⟩ := List.getElem_of_mem hx
                         exact hf2 j hj (by dsimp only at *; omega))
            · replace hb99 := dT hb99; refine W.condT rfl rfl<|W.skip rfl<|W.seq rfl<|W.block rfl<|W.seq rfl<|?_; have hk1 : k < c.states.length := by omega
              refine W.region rfl<|hst.y rfl (Y.indexAddr underlying26 sizeOf57 rfl rfl ((hin.states.hd.sl hst).ne (flat_pos sdC_len (by decide) (by omega))) (by omega))<|?_; refine hst.y rfl (Y.loadSlA isAgg57 sizeOf57 rfl hin.states.hd (flat_atI sdC_len c.states k hk1) rfl)<|Ops.ww rfl (X.allocA hst zeroValue57 fun p7 w7 hst => Ops.ww rfl (X.storeS hst 0 sizeOf57 rfl rfl rfl rfl rfl (lZ rfl) rfl rfl fun w8_3 hst => Ops.ds rfl rfl<|hst.y rfl (Y.fieldAddr fa57_6 rfl)<|hst.y rfl (Y.load 0 isAgg41 rfl rfl rfl)<|hst.y rfl (Y.lenS underlying41 rfl)<|hst.yb rfl (Y.gtr rfl rfl) (fun b105 hb105 => Ops.done rfl<|?_))); cases b105
              · replace hb105 := dF hb105; refine W.condF rfl rfl<|W.skip rfl<|W.region rfl<|hst.y rfl (Y.addI rfl rfl (by omega))<|hst.y rfl (Y.moveI rfl)<|Ops.done rfl<|?_; refine ⟨k + 1, ⟨rfl, trivial⟩, ⟨rfl, rfl, rfl, trivial⟩, ⟨⟨by omega, fun j hj h => ?_⟩, (hst.dr 1)⟩, by omega⟩; rcases (show j < k ∨ j = k by omega) with h | rfl
                · exact ht j hj h
                · omega
              · replace hb105 := dT hb105; refine W.condT rfl rfl<|W.sr rfl<|hst.y rfl (Y.assignB rfl)<|Ops.done rfl<|W.ret rfl<|⟨_, Rslt.one results7 rfl, ?_⟩
                first
                | exact ⟨true, rfl, (fun h => by cases h), (hst.dr 3)⟩
                | (refine ⟨false, rfl, fun _ => ⟨hok, hN, hD, hnd, htm, hbt, hse, l3, l4, l5, l6, l7, l8, ?_, ?_, ?_⟩, (hst.dr 3)⟩
                   · intro x hx; obtain ⟨j, hj, rfl⟩ := List.getElem_of_mem hx; exact ht j hj (by omega)
                   · intro x hx; obtain ⟨j, hj, rfl⟩ := List.getElem_of_mem hx; exact hf j hj (by dsimp only at *; omega)
                   · intro x hx; obtain ⟨j, hj, rfl⟩ := List.getElem_of_mem hx
                     exact hf2 j hj (by dsimp only at *; omega))
        · replace hb94 := dT hb94; refine W.condT rfl rfl<|W.sr rfl<|hst.y rfl (Y.assignB rfl)<|Ops.done rfl<|W.ret rfl<|⟨_, Rslt.one results7 rfl, ?_⟩
          first
          | exact ⟨true, rfl, (fun h => by cases h), (hst.dr 2)⟩
          | (refine ⟨false, rfl, fun _ => ⟨hok, hN, hD, hnd, htm, hbt, hse, l3, l4, l5, l6, l7, l8, ?_, ?_, ?_⟩, (hst.dr 2)⟩
             · intro x hx; obtain ⟨j, hj, rfl⟩ := List.getElem_of_mem hx; exact ht j hj (by omega)
             · intro x hx; obtain ⟨j, hj, rfl⟩ := List.getElem_of_mem hx; exact hf j hj (by dsimp only at *; omega)
             · intro x hx; obtain ⟨j, hj, rfl⟩ := List.getElem_of_mem hx
               exact hf2 j hj (by dsimp only at *; omega))
      refine W.region rfl<|hst.y rfl (Y.fieldAddr fa30_3 rfl)<|hst.y rfl (Y.load 1 isAgg24 rfl rfl rfl)<|hst.y rfl (Y.lenS underlying24 rfl)<|hst.yb rfl (Y.gtr rfl rfl) (fun b64 hb64 => hst.y rfl (Y.moveB rfl)<|?_); cases b64
      · replace hb64 := dF hb64; refine hst.y rfl (Y.fieldAddr fa30_4 rfl)<|hst.y rfl (Y.load 1 isAgg25 rfl rfl rfl)<|hst.y rfl (Y.lenS underlying25 rfl)<|hst.yb rfl (Y.gtr rfl rfl) (fun b69 hb69 => hst.y rfl (Y.pB rfl rfl)<|hst.y rfl (Y.moveB rfl)<|?_); cases b69
        · replace hb69 := dF hb69; refine hst.y rfl (Y.fieldAddr fa30_5 rfl)<|hst.y rfl (Y.load 1 isAgg26 rfl rfl rfl)<|hst.y rfl (Y.lenS underlying26 rfl)<|hst.yb rfl (Y.gtr rfl rfl) (fun b75 hb75 => hst.y rfl (Y.pB rfl rfl)<|hst.y rfl (Y.moveB rfl)<|?_); cases b75
          · replace hb75 := dF hb75; refine hst.y rfl (Y.fieldAddr fa30_6 rfl)<|hst.y rfl (Y.load 1 isAgg27 rfl rfl rfl)<|hst.y rfl (Y.lenS underlying27 rfl)<|hst.yb rfl (Y.gtr rfl rfl) (fun b81 hb81 => hst.y rfl (Y.pB rfl rfl)<|hst.y rfl (Y.moveB rfl)<|?_); cases b81
            · replace hb81 := dF hb81; refine hst.y rfl (Y.fieldAddr fa30_7 rfl)<|hst.y rfl (Y.load 1 isAgg24 rfl rfl rfl)<|hst.y rfl (Y.lenS underlying24 rfl)<|hst.yb rfl (Y.gtr rfl rfl) (fun b87 hb87 => hst.y rfl (Y.pB rfl rfl)<|hst.y rfl (Y.moveB rfl)<|?_); cases b87
              · replace hb87 := dF hb87; refine hst.y rfl (Y.fieldAddr fa30_8 rfl)<|hst.y rfl (Y.load 1 isAgg28 rfl rfl rfl)<|hst.y rfl (Y.lenS underlying28 rfl)<|hst.yb rfl (Y.gtr rfl rfl) (fun b93 hb93 => hst.y rfl (Y.pB rfl rfl)<|Ops.done rfl<|?_)
                first
                | exact ⟨true, ⟨rfl, trivial⟩, ⟨rfl, trivial⟩, (fun h => by cases h), hst⟩
                | exact ⟨_, ⟨rfl, trivial⟩, ⟨rfl, trivial⟩, (fun h => by rw [h] at hb93; have := of_decide_eq_false hb93.symm; refine ⟨by omega, by omega, by omega, by omega, by omega, by omega⟩), hst⟩
              · replace hb87 := dT hb87; refine Ops.nn rfl<|Ops.nn rfl<|Ops.nn rfl<|Ops.nn rfl<|hst.y rfl (Y.pB rfl rfl)<|Ops.done rfl<|?_
                first
                | exact ⟨true, ⟨rfl, trivial⟩, ⟨rfl, trivial⟩, (fun h => by cases h), hst⟩
                | exact ⟨_, ⟨rfl, trivial⟩, ⟨rfl, trivial⟩, (fun h => by rw [h] at hb93; have := of_decide_eq_false hb93.symm; refine ⟨by omega, by omega, by omega, by omega, by omega, by omega⟩), hst⟩
            · replace hb81 := dT hb81; refine Ops.nn rfl<|Ops.nn rfl<|Ops.nn rfl<|Ops.nn rfl<|hst.y rfl (Y.pB rfl rfl)<|hst.y rfl (Y.moveB rfl)<|Ops.nn rfl<|Ops.nn rfl<|Ops.nn rfl<|Ops.nn rfl<|hst.y rfl (Y.pB rfl rfl)<|Ops.done rfl<|?_
              first
              | exact ⟨true, ⟨rfl, trivial⟩, ⟨rfl, trivial⟩, (fun h => by cases h), hst⟩
              | exact ⟨_, ⟨rfl, trivial⟩, ⟨rfl, trivial⟩, (fun h => by rw [h] at hb93; have := of_decide_eq_false hb93.symm; refine ⟨by omega, by omega, by omega, by omega, by omega, by omega⟩), hst⟩
          · replace hb75 := dT hb75; refine Ops.nn rfl<|Ops.nn rfl<|Ops.nn rfl<|Ops.nn rfl<|hst.y rfl (Y.pB rfl rfl)<|hst.y rfl (Y.moveB rfl)<|Ops.nn rfl<|Ops.nn rfl<|Ops.nn rfl<|Ops.nn rfl<|hst.y rfl (Y.pB rfl rfl)<|hst.y rfl (Y.moveB rfl)<|Ops.nn rfl<|Ops.nn rfl<|Ops.nn rfl<|Ops.nn rfl<|hst.y rfl (Y.pB rfl rfl)<|Ops.done rfl<|?_
            first
            | exact ⟨true, ⟨rfl, trivial⟩, ⟨rfl, trivial⟩, (fun h => by cases h), hst⟩
            | exact ⟨_, ⟨rfl, trivial⟩, ⟨rfl, trivial⟩, (fun h => by rw [h] at hb93; have := of_decide_eq_false hb93.symm; refine ⟨by omega, by omega, by omega, by omega, by omega, by omega⟩), hst⟩
        · replace hb69 := dT hb69; refine Ops.nn rfl<|Ops.nn rfl<|Ops.nn rfl<|Ops.nn rfl<|hst.y rfl (Y.pB rfl rfl)<|hst.y rfl (Y.moveB rfl)<|Ops.nn rfl<|Ops.nn rfl<|Ops.nn rfl<|Ops.nn rfl<|hst.y rfl (Y.pB rfl rfl)<|hst.y rfl (Y.moveB rfl)<|Ops.nn rfl<|Ops.nn rfl<|Ops.nn rfl<|Ops.nn rfl<|hst.y rfl (Y.pB rfl rfl)<|hst.y rfl (Y.moveB rfl)<|Ops.nn rfl<|Ops.nn rfl<|Ops.nn rfl<|Ops.nn rfl<|hst.y rfl (Y.pB rfl rfl)<|Ops.done rfl<|?_
          first
          | exact ⟨true, ⟨rfl, trivial⟩, ⟨rfl, trivial⟩, (fun h => by cases h), hst⟩
          | exact ⟨_, ⟨rfl, trivial⟩, ⟨rfl, trivial⟩, (fun h => by rw [h] at hb93; have := of_decide_eq_false hb93.symm; refine ⟨by omega, by omega, by omega, by omega, by omega, by omega⟩), hst⟩
      · replace hb64 := dT hb64; refine Ops.nn rfl<|Ops.nn rfl<|Ops.nn rfl<|Ops.nn rfl<|hst.y rfl (Y.pB rfl rfl)<|hst.y rfl (Y.moveB rfl)<|Ops.nn rfl<|Ops.nn rfl<|Ops.nn rfl<|Ops.nn rfl<|hst.y rfl (Y.pB rfl rfl)<|hst.y rfl (Y.moveB rfl)<|Ops.nn rfl<|Ops.nn rfl<|Ops.nn rfl<|Ops.nn rfl<|hst.y rfl (Y.pB rfl rfl)<|hst.y rfl (Y.moveB rfl)<|Ops.nn rfl<|Ops.nn rfl<|Ops.nn rfl<|Ops.nn rfl<|hst.y rfl (Y.pB rfl rfl)<|hst.y rfl (Y.moveB rfl)<|Ops.nn rfl<|Ops.nn rfl<|Ops.nn rfl<|Ops.nn rfl<|hst.y rfl (Y.pB rfl rfl)<|Ops.done rfl<|?_
        first
        | exact ⟨true, ⟨rfl, trivial⟩, ⟨rfl, trivial⟩, (fun h => by cases h), hst⟩
        | exact ⟨_, ⟨rfl, trivial⟩, ⟨rfl, trivial⟩, (fun h => by rw [h] at hb93; have := of_decide_eq_false hb93.symm; refine ⟨by omega, by omega, by omega, by omega, by omega, by omega⟩), hst⟩
    · replace hb60 := dT hb60; refine W.condT rfl rfl<|W.sr rfl<|hst.y rfl (Y.assignB rfl)<|Ops.done rfl<|W.ret rfl<|⟨_, Rslt.one results7 rfl, ?_⟩
      first
      | exact ⟨true, rfl, (fun h => by cases h), (hst.dr 2)⟩
      | (refine ⟨false, rfl, fun _ => ⟨hok, hN, hD, hnd, htm, hbt, hse, l3, l4, l5, l6, l7, l8, ?_, ?_, ?_⟩, (hst.dr 2)⟩
         · intro x hx; obtain ⟨j, hj, rfl⟩ := List.getElem_of_mem hx; exact ht j hj (by omega)
         · intro x hx; obtain ⟨j, hj, rfl⟩ := List.getElem_of_mem hx; exact hf j hj (by dsimp only at *; omega)
         · intro x hx; obtain ⟨j, hj, rfl⟩ := List.getElem_of_mem hx
           exact hf2 j hj (by dsimp only at *; omega))
  refine W.region rfl<|hst.y rfl (Y.loadA 0 isAgg23 sizeOf23 rfl rfl rfl rfl)<|Ops.ww rfl (X.call cf22 rfl<|?_); refine use_call (check_any c.p _ _ _ _ _ hst) rfl ?_; clear hst; rintro e w16 ⟨er, rfl, hch, hst⟩; refine ⟨_, rfl, ?_⟩; refine hst.yb rfl (Y.neq rfl rfl) (fun b17 hb17 => hst.y rfl (Y.moveB rfl)<|?_); cases b17
  · replace hb17 := dF hb17; refine hst.y rfl (Y.fieldAddr fa23_0 rfl)<|hst.y rfl (Y.load 0 isAgg3 rfl rfl rfl)<|hst.yb rfl (Y.gtr rfl rfl) (fun b21 hb21 => hst.y rfl (Y.pB rfl rfl)<|hst.y rfl (Y.moveB rfl)<|?_); cases b21
    · replace hb21 := dF hb21; refine hst.y rfl (Y.fieldAddr fa23_2 rfl)<|hst.y rfl (Y.load 0 isAgg3 rfl rfl rfl)<|hst.yb rfl (Y.gtr rfl rfl) (fun b26 hb26 => hst.y rfl (Y.pB rfl rfl)<|hst.y rfl (Y.moveB rfl)<|?_); cases b26
      · replace hb26 := dF hb26; refine hst.y rfl (Y.fieldAddr fa30_2 rfl)<|hst.y rfl (Y.load 1 isAgg3 rfl rfl rfl)<|hst.yb rfl (Y.lss rfl rfl) (fun b31 hb31 => hst.y rfl (Y.pB rfl rfl)<|hst.y rfl (Y.moveB rfl)<|?_); cases b31
        · replace hb31 := dF hb31; refine hst.y rfl (Y.fieldAddr fa30_2 rfl)<|hst.y rfl (Y.load 1 isAgg3 rfl rfl rfl)<|hst.yb rfl (Y.gtr rfl rfl) (fun b36 hb36 => hst.y rfl (Y.pB rfl rfl)<|hst.y rfl (Y.moveB rfl)<|?_); cases b36
          · replace hb36 := dF hb36; refine hst.y rfl (Y.fieldAddr fa30_1 rfl)<|hst.y rfl (Y.load 1 isAgg3 rfl rfl rfl)<|hst.yb rfl (Y.gtr rfl rfl) (fun b41 hb41 => hst.y rfl (Y.pB rfl rfl)<|hst.y rfl (Y.moveB rfl)<|?_); cases b41
            · replace hb41 := dF hb41; refine hst.y rfl (Y.fieldAddr fa30_1 rfl)<|hst.y rfl (Y.load 1 isAgg3 rfl rfl rfl)<|hst.yb rfl (Y.lss rfl rfl) (fun b46 hb46 => hst.y rfl (Y.pB rfl rfl)<|hst.y rfl (Y.moveB rfl)<|?_); cases b46
              · replace hb46 := dF hb46; refine hst.y rfl (Y.moveI rfl)<|hst.yb rfl (Y.lss rfl rfl) (fun b50 hb50 => hst.y rfl (Y.pB rfl rfl)<|hst.y rfl (Y.moveB rfl)<|?_); cases b50
                · replace hb50 := dF hb50; refine hst.y rfl (Y.moveI rfl)<|hst.yb rfl (Y.gtr rfl rfl) (fun b54 hb54 => hst.y rfl (Y.pB rfl rfl)<|hst.y rfl (Y.moveB rfl)<|?_); cases b54
                  · replace hb54 := dF hb54; refine hst.y rfl (Y.loadA 0 isAgg23 sizeOf23 rfl rfl rfl rfl)<|Ops.ww rfl (X.ret cf23 (settle_any c.p _ _ _ _ _ hst (hch.1 (Decidable.not_not.1 hb17))) rfl fun w58 hst => hst.yb rfl (Y.gtr rfl rfl) (fun b59 hb59 => hst.y rfl (Y.pB rfl rfl)<|Ops.done rfl<|?_))
                    first
                    | exact ⟨true, ⟨rfl, trivial⟩, ⟨rfl, trivial⟩, (fun h => by cases h), hst⟩
                    | exact ⟨_, ⟨rfl, trivial⟩, ⟨rfl, trivial⟩, (fun h => ⟨hch.1 (Decidable.not_not.1 hb17), by omega, by omega, by omega, by omega, by omega, by rw [h] at hb59; have := of_decide_eq_false hb59.symm; omega⟩), hst⟩
                  · replace hb54 := dT hb54; refine Ops.nn rfl<|Ops.nn rfl<|Ops.nn rfl<|hst.y rfl (Y.pB rfl rfl)<|Ops.done rfl<|?_
                    first
                    | exact ⟨true, ⟨rfl, trivial⟩, ⟨rfl, trivial⟩, (fun h => by cases h), hst⟩
                    | exact ⟨_, ⟨rfl, trivial⟩, ⟨rfl, trivial⟩, (fun h => ⟨hch.1 (Decidable.not_not.1 hb17), by omega, by omega, by omega, by omega, by omega, by rw [h] at hb59; have := of_decide_eq_false hb59.symm; omega⟩), hst⟩
                · replace hb50 := dT hb50; refine Ops.nn rfl<|Ops.nn rfl<|hst.y rfl (Y.pB rfl rfl)<|hst.y rfl (Y.moveB rfl)<|Ops.nn rfl<|Ops.nn rfl<|Ops.nn rfl<|hst.y rfl (Y.pB rfl rfl)<|Ops.done rfl<|?_
                  first
                  | exact ⟨true, ⟨rfl, trivial⟩, ⟨rfl, trivial⟩, (fun h => by cases h), hst⟩
                  | exact ⟨_, ⟨rfl, trivial⟩, ⟨rfl, trivial⟩, (fun h => ⟨hch.1 (Decidable.not_not.1 hb17), by omega, by omega, by omega, by omega, by omega, by rw [h] at hb59; have := of_decide_eq_false hb59.symm; omega⟩), hst⟩
              · replace hb46 := dT hb46; refine Ops.nn rfl<|Ops.nn rfl<|hst.y rfl (Y.pB rfl rfl)<|hst.y rfl (Y.moveB rfl)<|Ops.nn rfl<|Ops.nn rfl<|hst.y rfl (Y.pB rfl rfl)<|hst.y rfl (Y.moveB rfl)<|Ops.nn rfl<|Ops.nn rfl<|Ops.nn rfl<|hst.y rfl (Y.pB rfl rfl)<|Ops.done rfl<|?_
                first
                | exact ⟨true, ⟨rfl, trivial⟩, ⟨rfl, trivial⟩, (fun h => by cases h), hst⟩
                | exact ⟨_, ⟨rfl, trivial⟩, ⟨rfl, trivial⟩, (fun h => ⟨hch.1 (Decidable.not_not.1 hb17), by omega, by omega, by omega, by omega, by omega, by rw [h] at hb59; have := of_decide_eq_false hb59.symm; omega⟩), hst⟩
            · replace hb41 := dT hb41; refine Ops.nn rfl<|Ops.nn rfl<|Ops.nn rfl<|hst.y rfl (Y.pB rfl rfl)<|hst.y rfl (Y.moveB rfl)<|Ops.nn rfl<|Ops.nn rfl<|hst.y rfl (Y.pB rfl rfl)<|hst.y rfl (Y.moveB rfl)<|Ops.nn rfl<|Ops.nn rfl<|hst.y rfl (Y.pB rfl rfl)<|hst.y rfl (Y.moveB rfl)<|Ops.nn rfl<|Ops.nn rfl<|Ops.nn rfl<|hst.y rfl (Y.pB rfl rfl)<|Ops.done rfl<|?_
              first
              | exact ⟨true, ⟨rfl, trivial⟩, ⟨rfl, trivial⟩, (fun h => by cases h), hst⟩
              | exact ⟨_, ⟨rfl, trivial⟩, ⟨rfl, trivial⟩, (fun h => ⟨hch.1 (Decidable.not_not.1 hb17), by omega, by omega, by omega, by omega, by omega, by rw [h] at hb59; have := of_decide_eq_false hb59.symm; omega⟩), hst⟩
          · replace hb36 := dT hb36; refine Ops.nn rfl<|Ops.nn rfl<|Ops.nn rfl<|hst.y rfl (Y.pB rfl rfl)<|hst.y rfl (Y.moveB rfl)<|Ops.nn rfl<|Ops.nn rfl<|Ops.nn rfl<|hst.y rfl (Y.pB rfl rfl)<|hst.y rfl (Y.moveB rfl)<|Ops.nn rfl<|Ops.nn rfl<|hst.y rfl (Y.pB rfl rfl)<|hst.y rfl (Y.moveB rfl)<|Ops.nn rfl<|Ops.nn rfl<|hst.y rfl (Y.pB rfl rfl)<|hst.y rfl (Y.moveB rfl)<|Ops.nn rfl<|Ops.nn rfl<|Ops.nn rfl<|hst.y rfl (Y.pB rfl rfl)<|Ops.done rfl<|?_
            first
            | exact ⟨true, ⟨rfl, trivial⟩, ⟨rfl, trivial⟩, (fun h => by cases h), hst⟩
            | exact ⟨_, ⟨rfl, trivial⟩, ⟨rfl, trivial⟩, (fun h => ⟨hch.1 (Decidable.not_not.1 hb17), by omega, by omega, by omega, by omega, by omega, by rw [h] at hb59; have := of_decide_eq_false hb59.symm; omega⟩), hst⟩
        · replace hb31 := dT hb31; refine Ops.nn rfl<|Ops.nn rfl<|Ops.nn rfl<|hst.y rfl (Y.pB rfl rfl)<|hst.y rfl (Y.moveB rfl)<|Ops.nn rfl<|Ops.nn rfl<|Ops.nn rfl<|hst.y rfl (Y.pB rfl rfl)<|hst.y rfl (Y.moveB rfl)<|Ops.nn rfl<|Ops.nn rfl<|Ops.nn rfl<|hst.y rfl (Y.pB rfl rfl)<|hst.y rfl (Y.moveB rfl)<|Ops.nn rfl<|Ops.nn rfl<|hst.y rfl (Y.pB rfl rfl)<|hst.y rfl (Y.moveB rfl)<|Ops.nn rfl<|Ops.nn rfl<|hst.y rfl (Y.pB rfl rfl)<|hst.y rfl (Y.moveB rfl)<|Ops.nn rfl<|Ops.nn rfl<|Ops.nn rfl<|hst.y rfl (Y.pB rfl rfl)<|Ops.done rfl<|?_
          first
          | exact ⟨true, ⟨rfl, trivial⟩, ⟨rfl, trivial⟩, (fun h => by cases h), hst⟩
          | exact ⟨_, ⟨rfl, trivial⟩, ⟨rfl, trivial⟩, (fun h => ⟨hch.1 (Decidable.not_not.1 hb17), by omega, by omega, by omega, by omega, by omega, by rw [h] at hb59; have := of_decide_eq_false hb59.symm; omega⟩), hst⟩
      · replace hb26 := dT hb26; refine Ops.nn rfl<|Ops.nn rfl<|Ops.nn rfl<|hst.y rfl (Y.pB rfl rfl)<|hst.y rfl (Y.moveB rfl)<|Ops.nn rfl<|Ops.nn rfl<|Ops.nn rfl<|hst.y rfl (Y.pB rfl rfl)<|hst.y rfl (Y.moveB rfl)<|Ops.nn rfl<|Ops.nn rfl<|Ops.nn rfl<|hst.y rfl (Y.pB rfl rfl)<|hst.y rfl (Y.moveB rfl)<|Ops.nn rfl<|Ops.nn rfl<|Ops.nn rfl<|hst.y rfl (Y.pB rfl rfl)<|hst.y rfl (Y.moveB rfl)<|Ops.nn rfl<|Ops.nn rfl<|hst.y rfl (Y.pB rfl rfl)<|hst.y rfl (Y.moveB rfl)<|Ops.nn rfl<|Ops.nn rfl<|hst.y rfl (Y.pB rfl rfl)<|hst.y rfl (Y.moveB rfl)<|Ops.nn rfl<|Ops.nn rfl<|Ops.nn rfl<|hst.y rfl (Y.pB rfl rfl)<|Ops.done rfl<|?_
        first
        | exact ⟨true, ⟨rfl, trivial⟩, ⟨rfl, trivial⟩, (fun h => by cases h), hst⟩
        | exact ⟨_, ⟨rfl, trivial⟩, ⟨rfl, trivial⟩, (fun h => ⟨hch.1 (Decidable.not_not.1 hb17), by omega, by omega, by omega, by omega, by omega, by rw [h] at hb59; have := of_decide_eq_false hb59.symm; omega⟩), hst⟩
    · replace hb21 := dT hb21; refine Ops.nn rfl<|Ops.nn rfl<|Ops.nn rfl<|hst.y rfl (Y.pB rfl rfl)<|hst.y rfl (Y.moveB rfl)<|Ops.nn rfl<|Ops.nn rfl<|Ops.nn rfl<|hst.y rfl (Y.pB rfl rfl)<|hst.y rfl (Y.moveB rfl)<|Ops.nn rfl<|Ops.nn rfl<|Ops.nn rfl<|hst.y rfl (Y.pB rfl rfl)<|hst.y rfl (Y.moveB rfl)<|Ops.nn rfl<|Ops.nn rfl<|Ops.nn rfl<|hst.y rfl (Y.pB rfl rfl)<|hst.y rfl (Y.moveB rfl)<|Ops.nn rfl<|Ops.nn rfl<|Ops.nn rfl<|hst.y rfl (Y.pB rfl rfl)<|hst.y rfl (Y.moveB rfl)<|Ops.nn rfl<|Ops.nn rfl<|hst.y rfl (Y.pB rfl rfl)<|hst.y rfl (Y.moveB rfl)<|Ops.nn rfl<|Ops.nn rfl<|hst.y rfl (Y.pB rfl rfl)<|hst.y rfl (Y.moveB rfl)<|Ops.nn rfl<|Ops.nn rfl<|Ops.nn rfl<|hst.y rfl (Y.pB rfl rfl)<|Ops.done rfl<|?_
      first
      | exact ⟨true, ⟨rfl, trivial⟩, ⟨rfl, trivial⟩, (fun h => by cases h), hst⟩
      | exact ⟨_, ⟨rfl, trivial⟩, ⟨rfl, trivial⟩, (fun h => ⟨hch.1 (Decidable.not_not.1 hb17), by omega, by omega, by omega, by omega, by omega, by rw [h] at hb59; have := of_decide_eq_false hb59.symm; omega⟩), hst⟩
  · replace hb17 := dT hb17; refine Ops.nn rfl<|Ops.nn rfl<|Ops.nn rfl<|hst.y rfl (Y.pB rfl rfl)<|hst.y rfl (Y.moveB rfl)<|Ops.nn rfl<|Ops.nn rfl<|Ops.nn rfl<|hst.y rfl (Y.pB rfl rfl)<|hst.y rfl (Y.moveB rfl)<|Ops.nn rfl<|Ops.nn rfl<|Ops.nn rfl<|hst.y rfl (Y.pB rfl rfl)<|hst.y rfl (Y.moveB rfl)<|Ops.nn rfl<|Ops.nn rfl<|Ops.nn rfl<|hst.y rfl (Y.pB rfl rfl)<|hst.y rfl (Y.moveB rfl)<|Ops.nn rfl<|Ops.nn rfl<|Ops.nn rfl<|hst.y rfl (Y.pB rfl rfl)<|hst.y rfl (Y.moveB rfl)<|Ops.nn rfl<|Ops.nn rfl<|Ops.nn rfl<|hst.y rfl (Y.pB rfl rfl)<|hst.y rfl (Y.moveB rfl)<|Ops.nn rfl<|Ops.nn rfl<|hst.y rfl (Y.pB rfl rfl)<|hst.y rfl (Y.moveB rfl)<|Ops.nn rfl<|Ops.nn rfl<|hst.y rfl (Y.pB rfl rfl)<|hst.y rfl (Y.moveB rfl)<|Ops.nn rfl<|Ops.nn rfl<|Ops.nn rfl<|hst.y rfl (Y.pB rfl rfl)<|Ops.done rfl<|?_
    first
    | exact ⟨true, ⟨rfl, trivial⟩, ⟨rfl, trivial⟩, (fun h => by cases h), hst⟩
    | exact ⟨_, ⟨rfl, trivial⟩, ⟨rfl, trivial⟩, (fun h => ⟨hch.1 (Decidable.not_not.1 hb17), by omega, by omega, by omega, by omega, by omega, by rw [h] at hb59; have := of_decide_eq_false hb59.symm; omega⟩), hst⟩
end Go.Proofs.YtaanjifekgfemaaGreat.Cl
end
section
namespace Go.Proofs.YtaanjifekgfemaaGreat.Cl
open Tryz
open Go.RowKit Go.Proofs.YtaanjifekgfemaaGreat.K Go.Proofs.YtaanjifekgfemaaGreat.W Go.Proofs.YtaanjifekgfemaaGreat.LN
structure Wd where
  time : Int
  ub : Nat
  uc : Nat
  A : Option Addr
  lc : Nat
  links : List (Int × Int)
  ms : List UM
def Wd.res (x : Wd) (p : Par) (wb : Nat) (L : List Res) : List Res :=
  cellsR wb (wC p x.time (.slice (some ⟨x.ub, 0, none⟩) (unL x.ms).length x.uc) (.slice x.A x.links.length x.lc)) 86 ::
  rowR (.slice (some ⟨x.ub, 0, none⟩) (unL x.ms).length x.uc) 96 4 (unL x.ms).length (flat unC (unL x.ms)) ::
  rowR (.slice x.A x.links.length x.lc) 77 2 x.links.length (flat pairC x.links) ::
  (x.ms.map UM.lres ++ ((x.ms.map (UM.fres p)).flatten ++ L))
def whosL (N nd : Nat) : List Int := (List.range N).map (fun (i : Nat) => (i : Int)) ++ (List.range nd).map fun (i : Nat) => 16 + (i : Int)
def whosM (ms : List UM) : List Int := ms.map fun m => m.u.who
structure Wd.Ok (x : Wd) (p : Par) (nd : Nat) (G : List Res) : Prop where
  ms : ∀ m ∈ x.ms, m.Ok p G
  who : whosM x.ms = whosL p.N.toNat nd
  links : LinksOk (unL x.ms) x.links
theorem whosL_len (N nd : Nat) : (whosL N nd).length = N + nd := by simp [whosL]
theorem whosL_lo {N nd k : Nat} (h : k < N) : (whosL N nd)[k]? = some (k : Int) := by
  unfold whosL; rw [List.getElem?_append_left (by simpa using h), List.getElem?_map, List.getElem?_range h]; rfl
theorem whosL_hi {N nd k : Nat} (h : k < nd) : (whosL N nd)[N + k]? = some (16 + (k : Int)) := by
  unfold whosL; rw [List.getElem?_append_right (by simp), List.getElem?_map]; simp [h]
theorem whosL_mem {N nd : Nat} {who : Int} : who ∈ whosL N nd ↔ (0 ≤ who ∧ who < N) ∨ (16 ≤ who ∧ who < 16 + nd) := by
  unfold whosL; rw [List.mem_append, List.mem_map, List.mem_map]; constructor
  · rintro (⟨i, hi, rfl⟩ | ⟨i, hi, rfl⟩)
    · rw [List.mem_range] at hi; exact .inl (by omega)
    · rw [List.mem_range] at hi; exact .inr (by omega)
  · rintro (h | h)
    · exact .inl ⟨who.toNat, List.mem_range.2 (by omega), by omega⟩
    · exact .inr ⟨(who - 16).toNat, List.mem_range.2 (by omega), by omega⟩
theorem nodup_of_inj {α : Type} {l : List α} (h : ∀ i j, i < l.length → j < l.length → l[i]? = l[j]? → i = j) : l.Nodup := by
  unfold List.Nodup; rw [List.pairwise_iff_getElem]; intro i j hi hj hij he; exact Nat.ne_of_lt hij (h i j hi hj (by rw [List.getElem?_eq_getElem hi, List.getElem?_eq_getElem hj, he]))
theorem whosL_at {N nd k : Nat} (h : k < N + nd) : (whosL N nd)[k]? = some (if k < N then (k : Int) else 16 + ((k - N : Nat) : Int)) := by
  by_cases h1 : k < N
  · rw [if_pos h1]; exact whosL_lo h1
  · rw [if_neg h1]; have h2 := whosL_hi (N := N) (nd := nd) (k := k - N) (by omega); rw [show N + (k - N) = k by omega] at h2; exact h2
theorem whosL_nodup {N nd : Nat} (hN : N ≤ 16) : (whosL N nd).Nodup := by
  refine nodup_of_inj fun i j hi hj he => ?_; rw [whosL_len] at hi hj; rw [whosL_at hi, whosL_at hj] at he; injection he with he; split at he <;> split at he <;> omega
theorem whosM_un (ms : List UM) : (unL ms).map (fun u => u.who) = whosM ms := by
  unfold unL whosM; rw [List.map_map]; rfl
theorem unL_length (ms : List UM) : (unL ms).length = ms.length := by unfold unL; simp
theorem idx_at {us : List Un} {ws : List Int} (h : us.map (fun u => u.who) = ws) (hn : ws.Nodup) {k : Nat} {who : Int} (hk : ws[k]? = some who) : idxI (isU who) us = (k : Int) ∧ k < us.length := by
  subst h; rw [List.getElem?_map] at hk; obtain ⟨u, hu, rfl⟩ := Option.map_eq_some_iff.1 hk; obtain ⟨hk2, rfl⟩ := List.getElem?_eq_some_iff.1 hu; refine ⟨idxI_at hk2 (by unfold isU; simp) ?_, hk2⟩; intro j hj hjk; unfold isU; refine decide_eq_false fun he => ?_; unfold List.Nodup at hn; rw [List.pairwise_iff_getElem] at hn; refine hn j k (by simpa using hj) (by simpa using hk2) hjk ?_; rw [List.getElem_map, List.getElem_map]; exact he
theorem idx_no {us : List Un} {ws : List Int} (h : us.map (fun u => u.who) = ws) {who : Int} (hk : who ∉ ws) : idxI (isU who) us = -1 := by
  subst h; refine idxI_no fun j hj => decide_eq_false fun he => hk ?_; exact List.mem_map.2 ⟨us[j], List.getElem_mem hj, he⟩
theorem linksOk_whos {us : List Un} {ws : List Int} (h : us.map (fun u => u.who) = ws) (hn : ws.Nodup) (l : List (Int × Int)) : LinksOk us l ↔ ∀ x ∈ l, x.2 ∈ ws := by
  constructor
  · intro h1 x hx; obtain ⟨i, hi⟩ := h1 x hx; refine Classical.byContradiction fun hw => ?_; rw [idx_no h hw] at hi; omega
  · intro h1 x hx; obtain ⟨k, hk⟩ := List.getElem?_of_mem (h1 x hx); exact ⟨k, (idx_at h hn hk).1⟩
theorem unitAt_whos {us : List Un} {ws : List Int} (h : us.map (fun u => u.who) = ws) (hn : ws.Nodup) (who : Int) (ub : Nat) : unitAt us who ub ≠ none ↔ who ∈ ws := by
  unfold unitAt; constructor
  · intro h1; refine Classical.byContradiction fun hw => ?_; rw [idx_no h hw] at h1; exact h1 rfl
  · intro h1; obtain ⟨k, hk⟩ := List.getElem?_of_mem h1; rw [(idx_at h hn hk).1, if_neg (by omega)]; exact fun h => by cases h
def joinW (ws : List Int) (l : List (Int × Int)) (y : Int × Int) : List (Int × Int) := if y.1 ≠ y.2 ∧ y.1 ∈ ws ∧ y.2 ∈ ws ∧ y ∉ l then l ++ [y] else l
theorem joinL_whos {us : List Un} {ws : List Int} (h : us.map (fun u => u.who) = ws) (hn : ws.Nodup) (ub : Nat) : joinL us ub = joinW ws := by
  funext l y
  unfold joinL joinW joins; simp only [unitAt_whos h hn]
section
variable {w0 w : World} {F0 : List Nat} {L G : List Res}
theorem count_pm {α : Type} {l l' : List α} (h : ∀ (P : α → Bool), l.countP P = l'.countP P) : l.Perm l' := by
  classical
  refine List.perm_iff_count.2 fun a => ?_; unfold List.count; exact h _
theorem St.newAt {a u l x m0 : Res} {xs f0 M L : List Res} {F : List (List Res)} {i : Nat} (h : St w0 F0 w (a :: u :: x :: (xs ++ (l :: (M ++ (F.flatten ++ L))))) G) (hi : M[i]? = some m0) (hf : F[i]? = some f0) : St w0 F0 w (a :: u :: l :: (M.set i x ++ ((F.set i xs).flatten ++ L))) G := by
  have p1 : M.Perm (m0 :: M.eraseIdx i) := perm_at hi; have p2 : (x :: M.eraseIdx i).Perm (M.set i x) := perm_set hi; have p3 : F.flatten.Perm (f0 ++ (F.eraseIdx i).flatten) := flatten_at hf; have p4 : (xs ++ (F.eraseIdx i).flatten).Perm ((F.set i xs).flatten) := flatten_set hf
  have hp : (a :: u :: x :: (xs ++ (l :: (M ++ (F.flatten ++ L))))).Perm ((m0 :: f0) ++ (a :: u :: l :: (M.set i x ++ ((F.set i xs).flatten ++ L)))) := count_pm fun P => by
    have c1 := p1.countP_eq P; have c2 := p2.countP_eq P; have c3 := p3.countP_eq P; have c4 := p4.countP_eq P; simp only [List.countP_append, List.countP_cons] at c1 c2 c3 c4 ⊢; omega
  have h2 := (h.perm hp).dr (m0 :: f0).length; rwa [List.drop_left] at h2
end
theorem whos_gn (p : Par) (N nd : Nat) {ms : List UM} (h : puL ms = gatesP p N ++ nodesP p nd) : whosM ms = whosL N nd := by
  have e : whosM ms = (puL ms).map fun u => u.who := by unfold whosM puL; rw [List.map_map]; rfl
  rw [e, h]; unfold gatesP nodesP whosL; rw [List.map_append, List.map_map, List.map_map]; rfl
theorem Wd.Ok.un {x : Wd} {p : Par} {nd : Nat} {G : List Res} (h : x.Ok p nd G) : (unL x.ms).map (fun u => u.who) = whosL p.N.toNat nd := (whosM_un _).trans h.who
theorem Wd.Ok.mono {x : Wd} {p : Par} {nd : Nat} {G G' : List Res} (h : x.Ok p nd G) (hG : ∀ r ∈ G, r ∈ G') : x.Ok p nd G' := ⟨fun m hm => (h.ms m hm).mono hG, h.who, h.links⟩
theorem Wd.Ok.len {x : Wd} {p : Par} {nd : Nat} {G : List Res} (h : x.Ok p nd G) : x.ms.length = p.N.toNat + nd := by
  have := congrArg List.length h.who; rw [whosL_len] at this; simpa [whosM] using this
theorem pushQ_size {qs : Qs} (h : ∀ q ∈ qs, ∀ x ∈ q, x.1.size ≤ 4096) (who : Int) (s : ByteArray) : ∀ q ∈ pushQ qs who s, ∀ x ∈ q, x.1.size ≤ 4096 := by
  unfold pushQ; split
  · rename_i hc; intro q hq; rcases List.mem_or_eq_of_mem_set hq with hq | rfl
    · exact h q hq
    · intro x hx; unfold putQ at hx; rw [List.mem_append, List.mem_singleton] at hx
      have hq2 : ∀ x ∈ qat qs who, x.1.size ≤ 4096 := size_at h who.toNat
      rcases hx with hx | rfl
      · split at hx
        · exact hq2 x (List.mem_of_mem_tail hx)
        · exact hq2 x hx
      · exact hc.2
  · exact h
theorem setQs_ok {p : Par} {G : List Res} {m : UM} (h : m.Ok p G) {q : Qs} (hq : ∀ r ∈ q, ∀ x ∈ r, x.1.size ≤ 4096) : (m.setQs q).Ok p G := ⟨h.fit, h.tab, h.near, hq⟩
theorem pushAt_ok {p : Par} {G : List Res} (us : List Un) {ms : List UM} (h : ∀ m ∈ ms, m.Ok p G) (who : Int) (t : ByteArray) (to : Int) : ∀ m ∈ pushAt us ms who t to, m.Ok p G := by
  unfold pushAt modAt; split
  · rename_i m hm; intro x hx; rcases List.mem_or_eq_of_mem_set hx with hx | rfl
    · exact h x hx
    · have hm2 := h m (List.mem_of_getElem? hm); exact setQs_ok hm2 (pushQ_size hm2.qs _ _)
  · exact h
theorem sendF_ok {p : Par} {G : List Res} (us : List Un) (who : Int) (fr : ByteArray) (s : Stp) {ms : List UM} (h : ∀ m ∈ ms, m.Ok p G) (links : List (Int × Int)) : ∀ m ∈ sendF us who fr s ms links, m.Ok p G := by
  unfold sendF
  induction links generalizing ms with
  | nil => exact h
  | cons l ls ih =>
    refine ih ?_; unfold sendStep; split
    · exact h
    · exact pushAt_ok us h _ _ _
theorem sendAll_ok {p : Par} {G : List Res} (us : List Un) (s : Stp) (links : List (Int × Int)) (sd : List Hd) {ms : List UM} (h : ∀ m ∈ ms, m.Ok p G) (k : Nat) : ∀ m ∈ sendAll us s links sd ms k, m.Ok p G := by
  induction k with
  | zero => exact h
  | succ k ih =>
    rw [sendAll_succ]; unfold sendOne; split
    · split
      · exact ih
      · exact sendF_ok us _ _ s ih links
    · exact ih
structure StepW (p : Par) (stp : Stp) (G G' : List Res) (x x' : Wd) : Prop where
  run : ∃ ms1 sd, RunS p stp (unL x.ms) x.ms G (unL x.ms).length ms1 sd G' ∧ x'.ms = sendAll (unL x.ms) stp x'.links sd ms1 (unL x.ms).length
  time : x'.time = adds [x.time, p.Beat]
  links : x'.links = joinsF (unL x.ms) x.ub (cutsF x.links stp.cut) stp.join
  un : unL x'.ms = unL x.ms
  ub : x'.ub = x.ub
theorem StepW.ok {p : Par} {stp : Stp} {G G' : List Res} {x x' : Wd} {nd : Nat} (h : StepW p stp G G' x x') (hx : x.Ok p nd G) (hN : p.N.toNat ≤ 16) : x'.Ok p nd G' := by
  obtain ⟨ms1, sd, hr, he⟩ := h.run; have hw : whosM x'.ms = whosL p.N.toNat nd := by rw [← whosM_un, h.un, whosM_un]; exact hx.who
  refine ⟨?_, hw, ?_⟩
  · rw [he]; exact sendAll_ok _ _ _ _ hr.ok _
  · rw [h.un, h.links]; exact linksOk_fold (fun l y h => linksOk_join h y) (linksOk_fold (fun l y h => linksOk_cut h y) hx.links _) _
end Go.Proofs.YtaanjifekgfemaaGreat.Cl
end
