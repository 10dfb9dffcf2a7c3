/- What the proof rests on, part 6. -/
import Derived.Test.YtaanjifekgfemaaGreatM5
set_option linter.unusedVariables false
set_option linter.unusedSimpArgs false
set_option linter.unusedSectionVars false
section
namespace Go.Proofs.YtaanjifekgfemaaGreat.Cl
open Tryz
open Go.RowKit Go.Proofs.YtaanjifekgfemaaGreat.K Go.Proofs.YtaanjifekgfemaaGreat.W Go.Proofs.YtaanjifekgfemaaGreat.LN
attribute [local irreducible] bound clip adds sub neg mag mulp mul maxs
theorem ul_le {x : Wd} {p : Par} {nd : Nat} {G : List Res} (hx : x.Ok p nd G) (hp : p.Ok) (hnd : nd ≤ 32) : (unL x.ms).length ≤ 48 := by have := hx.len; have := hp.N; rw [unL_length]; omega
theorem whos_in {x : Wd} {p : Par} {nd : Nat} {G : List Res} (hx : x.Ok p nd G) (hp : p.Ok) (hnd : nd ≤ 32) : ∀ m ∈ x.ms, 0 ≤ m.u.who ∧ m.u.who ≤ 47 := by
  intro m hm; have h1 : m.u.who ∈ whosM x.ms := List.mem_map.2 ⟨m, hm, rfl⟩; rw [hx.who, whosL_mem] at h1; have := hp.N; omega
theorem nodW {p : Par} (hp : p.Ok) (nd : Nat) : (whosL p.N.toNat nd).Nodup := whosL_nodup (by have := hp.N; omega)
theorem wset_W (t : Int) (wb : Nat) (p : Par) (hp : p.Ok) (nd : Nat) (hnd : nd ≤ 32) (x : Wd) (w0 w : World) (F0 : List Nat) (L G : List Res) (hst : St w0 F0 w (x.res p wb L) G) (hx : x.Ok p nd G) :
    Calls Tryz.prog 24 #[.pointer (some ⟨wb, 0, none⟩), .int .i64 t] w fun e w' => e = .returned (.tuple #[]) ∧ St w0 F0 w' ({ x with time := clip t }.res p wb L) G :=
  wset_any wb p x.time x.ub (unL x.ms) x.uc x.A x.links.length x.lc t _ _ _ _ _ hst
theorem front_W (who : Int) (wb : Nat) (p : Par) (hp : p.Ok) (nd : Nat) (hnd : nd ≤ 32) (x : Wd) (w0 w : World) (F0 : List Nat) (L G : List Res) (hst : St w0 F0 w (x.res p wb L) G) (hx : x.Ok p nd G) (k : Nat) (m : UM) (hk : x.ms[k]? = some m) (hwho : m.u.who = who) :
    Calls Tryz.prog 11 #[.pointer (some ⟨wb, 0, none⟩), .int .i64 who] w fun e w' => e = .returned (.pointer (some ⟨m.fb, 0, none⟩)) ∧ St w0 F0 w' (x.res p wb L) G := by
  have hw : (whosL p.N.toNat nd)[k]? = some who := by rw [← hx.who]; unfold whosM; rw [List.getElem?_map, hk, ← hwho]; rfl
  obtain ⟨hi, hlt⟩ := idx_at hx.un (nodW hp nd) hw; have hun : (unL x.ms)[k] = m.un := by have h1 := unL_at (ms := x.ms) rfl hk; rw [List.getElem?_eq_getElem hlt] at h1; injection h1
  have h2 := front_in wb p x.time x.ub (unL x.ms) x.uc x.A x.links.length x.lc who (by have := ul_le hx hp hnd; omega) k hi hlt _ _ _ _ _ hst (Rds.rowL 0 rfl); rw [hun] at h2; exact h2
theorem begin_W (who : Int) (s : Stt) (A : Option Addr) (cap : Nat) (hT : TabFit s.tab) (wb : Nat) (p : Par) (hp : p.Ok) (nd : Nat) (hnd : nd ≤ 32) (x : Wd) (w0 w : World) (F0 : List Nat) (L G : List Res) (hst : St w0 F0 w (x.res p wb L) G) (hx : x.Ok p nd G) (hr : Rds [] G (.slice A (s.tab).length cap) (s.tab).length (lcs (s.tab))) :
    Calls Tryz.prog 25 #[.pointer (some ⟨wb, 0, none⟩), .int .i64 who, .agg #[.int .i64 s.lo, .int .i64 s.hi, .int .i64 s.time, .bool s.set, .int .i64 s.held, .int .i64 s.hops, .bool s.good, .slice A s.tab.length cap, .int .i64 s.st, .int .i64 s.sn, .int .i64 s.life]] w fun e w' => ∃ (x' : Wd) (G' : List Res), e = .returned (.tuple #[]) ∧ x'.Ok p nd G' ∧ (∀ r ∈ G, r ∈ G') ∧ x'.time = x.time ∧ x'.links = x.links ∧ St w0 F0 w' (x'.res p wb L) G' := by
  have hul := ul_le hx hp hnd
  by_cases hw : who ∈ whosL p.N.toNat nd
  · obtain ⟨k, hk⟩ := List.getElem?_of_mem hw; obtain ⟨hi, hlt⟩ := idx_at hx.un (nodW hp nd) hk; have hlt2 : k < x.ms.length := by rw [← unL_length]; exact hlt
    refine (begin_in wb p x.time x.ub (unL x.ms) x.uc x.A x.links.length x.lc hp who s A cap hT (by omega) k hi _ _ _ _ _ hst hr).mono ?_; rintro e w' ⟨m, G', rfl, hmu, hG, hok, hst⟩; have hkm : x.ms[k]? = some x.ms[k] := List.getElem?_eq_getElem hlt2; have hst2 := St.newAt hst (m0 := (x.ms[k]).lres) (f0 := (x.ms[k]).fres p) (i := k) (by rw [List.getElem?_map, hkm]; rfl) (by rw [List.getElem?_map, hkm]; rfl); have e1 : (unL x.ms).set k m.un = unL (x.ms.set k m) := by unfold unL; rw [List.map_set]
    have e2 : (unL (x.ms.set k m)).length = (unL x.ms).length := by rw [unL_length, unL_length, List.length_set]
    have e3 : whosM (x.ms.set k m) = whosM x.ms := by
      unfold whosM; rw [List.map_set, hmu]; refine set_same ?_; have h3 := hx.who; unfold whosM at h3; rw [h3, hk]; rfl
    refine ⟨{ x with ms := x.ms.set k m }, G', rfl, ⟨?_, e3.trans hx.who, ?_⟩, hG, rfl, rfl, ?_⟩
    · intro y hy; rcases List.mem_or_eq_of_mem_set hy with hy | rfl
      · exact (hx.ms y hy).mono hG
      · exact hok
    · exact (linksOk_whos ((whosM_un _).trans (e3.trans hx.who)) (nodW hp nd) _).2 ((linksOk_whos hx.un (nodW hp nd) _).1 hx.links)
    · unfold Wd.res; dsimp only; rw [e2, ← e1, List.map_set, List.map_set]; rw [e1] at hst2 ⊢; exact hst2
  · refine (begin_out wb p x.time x.ub (unL x.ms) x.uc x.A x.links.length x.lc who s A cap (by omega) (by rw [idx_no hx.un hw]; decide) _ _ _ _ _ hst).mono ?_; rintro e w' ⟨rfl, hst⟩; exact ⟨x, G, rfl, hx, fun _ h => h, rfl, rfl, hst⟩
theorem put_W (l : Int × Int) (fr : ByteArray) (wb : Nat) (p : Par) (hp : p.Ok) (nd : Nat) (hnd : nd ≤ 32) (x : Wd) (w0 w : World) (F0 : List Nat) (L G : List Res) (hst : St w0 F0 w (x.res p wb L) G) (hx : x.Ok p nd G) :
    Calls Tryz.prog 26 #[.pointer (some ⟨wb, 0, none⟩), .agg (pairC l).toArray, .string fr] w fun e w' => ∃ (v : Value) (x' : Wd), e = .returned v ∧ x'.Ok p nd G ∧ x'.time = x.time ∧ x'.links = x.links ∧ St w0 F0 w' (x'.res p wb L) G := by
  have hul := ul_le hx hp hnd
  by_cases hw : l.2 ∈ whosL p.N.toNat nd
  · obtain ⟨k, hk⟩ := List.getElem?_of_mem hw; obtain ⟨hi, hlt⟩ := idx_at hx.un (nodW hp nd) hk; have hlt2 : k < x.ms.length := by rw [← unL_length]; exact hlt
    have hkm : x.ms[k]? = some x.ms[k] := List.getElem?_eq_getElem hlt2; have hkl : (x.ms.map UM.lres)[k]? = some (x.ms[k]).lres := by rw [List.getElem?_map, hkm]; rfl
    have hun : (unL x.ms)[k] = (x.ms[k]).un := by have h1 := unL_at (ms := x.ms) rfl hkm; rw [List.getElem?_eq_getElem hlt] at h1; injection h1
    have hst2 := (St.foc (pre := [_, _, _]) (mid := x.ms.map UM.lres) hst hkl).up_1; have hq : (x.ms[k]).lres = QR (unL x.ms)[k].lb 0 (x.ms[k]).u.qs := by rw [hun]; rfl
    rw [hq] at hst2; refine (put_in wb p x.time x.ub (unL x.ms) x.uc x.A x.links.length x.lc l fr _ (by omega) k hi hlt _ _ _ _ _ hst2 (Rds.rowL 0 rfl)).mono ?_; rintro e w' ⟨v, rfl, hst⟩; have hst3 := St.unfoc (pre := [_, _, _]) (mid := x.ms.map UM.lres) hst.dn1 hkl; have hm2 := hx.ms _ (List.getElem_mem hlt2); have e1 : QR (unL x.ms)[k].lb 0 (pushQ (x.ms[k]).u.qs l.1 fr) = ((x.ms[k]).setQs (pushQ (x.ms[k]).u.qs l.1 fr)).lres := by rw [hun]; rfl
    have e2 : unL (x.ms.set k ((x.ms[k]).setQs (pushQ (x.ms[k]).u.qs l.1 fr))) = unL x.ms := by
      unfold unL; rw [List.map_set, setQs_un]; exact set_same (by rw [List.getElem?_map, hkm]; rfl)
    have e3 : whosM (x.ms.set k ((x.ms[k]).setQs (pushQ (x.ms[k]).u.qs l.1 fr))) = whosM x.ms := by rw [← whosM_un, e2, whosM_un]
    have e4 : (x.ms.set k ((x.ms[k]).setQs (pushQ (x.ms[k]).u.qs l.1 fr))).map (UM.fres p) = x.ms.map (UM.fres p) := by
      rw [List.map_set, setQs_fres]; exact set_same (by rw [List.getElem?_map, hkm]; rfl)
    refine ⟨v, { x with ms := x.ms.set k ((x.ms[k]).setQs (pushQ (x.ms[k]).u.qs l.1 fr)) }, rfl, ⟨?_, e3.trans hx.who, ?_⟩, rfl, rfl, ?_⟩
    · intro y hy; rcases List.mem_or_eq_of_mem_set hy with hy | rfl
      · exact hx.ms y hy
      · exact setQs_ok hm2 (pushQ_size hm2.qs _ _)
    · dsimp only; rw [e2]; exact hx.links
    · unfold Wd.res; dsimp only; rw [e2, e4, List.map_set, ← e1]; exact hst3
  · refine (put_out wb p x.time x.ub (unL x.ms) x.uc x.A x.links.length x.lc l fr (by omega) (by rw [idx_no hx.un hw]; decide) _ _ _ _ _ hst (Rds.rowL 0 rfl)).mono ?_; rintro e w' ⟨v, rfl, hst⟩; exact ⟨v, x, rfl, hx, rfl, rfl, hst⟩
theorem beat_W (tbl : List Int) (htl : tbl.length = 20) (stp : Stp) (wb : Nat) (p : Par) (hp : p.Ok) (nd : Nat) (hnd : nd ≤ 32) (x : Wd) (w0 w : World) (F0 : List Nat) (L G : List Res) (hst : St w0 F0 w (x.res p wb L) G) (hx : x.Ok p nd G) (hll : x.links.length + 2 * stp.join.length ≤ 900000) (hok : stp.Ok G) (hpw : powR tbl ∈ G) :
    Calls Tryz.prog 9 #[.pointer (some ⟨wb, 0, none⟩), .agg (stpC stp).toArray] w fun e w' => ∃ (x' : Wd) (G' : List Res), e = .returned (.int .i64 0) ∧ StepW p stp G G' x x' ∧ x'.Ok p nd G' ∧ (∀ r ∈ G, r ∈ G') ∧ St w0 F0 w' (x'.res p wb L) G' := by
  refine (wbeat_any tbl htl wb p x.time x.ub (unL x.ms) x.uc x.A x.lc hp x.links stp hll (ul_le hx hp hnd) x.ms rfl hx.links (whos_in hx hp hnd) _ _ _ _ _ hst hx.ms hok hpw).mono ?_; rintro e w' ⟨ms1, sd, G', A', c', rfl, hr, hst⟩; have e1 : unL (sendAll (unL x.ms) stp (joinsF (unL x.ms) x.ub (cutsF x.links stp.cut) stp.join) sd ms1 (unL x.ms).length) = unL x.ms := (sendAll_map UM.un setQs_un _ _ _ _ _ _).trans hr.un; have hs : StepW p stp G G' x { x with time := adds [x.time, p.Beat], A := A', lc := c', links := joinsF (unL x.ms) x.ub (cutsF x.links stp.cut) stp.join, ms := sendAll (unL x.ms) stp (joinsF (unL x.ms) x.ub (cutsF x.links stp.cut) stp.join) sd ms1 (unL x.ms).length } := ⟨⟨ms1, sd, hr, rfl⟩, rfl, rfl, e1, rfl⟩; refine ⟨_, G', rfl, hs, hs.ok hx (by have := hp.N; omega), hr.more, ?_⟩; unfold Wd.res; dsimp only; rw [e1]; exact hst
def jkW (ws : List Int) (i : Nat) (l : List (Int × Int)) (n : Nat) : List (Int × Int) := (List.range n).foldl (fun l (k : Nat) => joinW ws l ((i : Int), (k : Int))) l
def jcW (ws : List Int) (i : Nat) (l : List (Int × Int)) (cs : List Int) : List (Int × Int) := cs.foldl (fun l c => if 0 ≤ c ∧ c < 32 then joinW ws l ((i : Int), 16 + c) else l) l
def jiW (ws : List Int) (n : Nat) (cs : List Int) (m : Nat) : List (Int × Int) := (List.range m).foldl (fun l (i : Nat) => jcW ws i (jkW ws i l n) cs) []
def lnk (ws : List Int) (n : Nat) (cs : List Int) (ls : List (Int × Int)) : List (Int × Int) := ls.foldl (bothE (joinW ws)) (jiW ws n cs n)
theorem links0_whos {us : List Un} {ws : List Int} (h : us.map (fun u => u.who) = ws) (hn : ws.Nodup) (ub n : Nat) (cs : List Int) (ls : List (Int × Int)) : links0 us ub n cs ls = lnk ws n cs ls := by
  unfold links0 lnk joinsF jiF jiW ji1 jcF jcW jkF jkW jc1; rw [joinL_whos h hn]
theorem new_W (p : Par) (hp : p.Ok) (nd : Nat) (hnd : nd ≤ 32) (core : List Int) (hcl : core.length ≤ 1000) (B : Option Addr) (cb : Nat) (links : List (Int × Int)) (hll : links.length ≤ 100000) (C : Option Addr) (cc : Nat) (w0 w : World) (F0 : List Nat) (L G : List Res) (hst : St w0 F0 w L G) (hrn : Rds [] G (.slice none 0 0) 0 []) (hrc : Rds [] G (.slice B core.length cb) core.length (ivs core)) (hrl : Rds [] G (.slice C links.length cc) links.length (flat pairC links)) :
    Calls Tryz.prog 20 #[.agg #[.int .i64 p.N, .int .i64 p.F, .int .i64 p.D, .int .i64 p.Beat, .int .i64 p.Rho, .int .i64 p.Delay, .int .i64 p.Jitter, .int .i64 p.Eps, .int .i64 p.Mu, .int .i64 p.Hold, .int .i64 p.Pulse, .int .i64 p.Second], .int .i64 (nd : Int), .slice B core.length cb, .slice C links.length cc] w fun e w' => ∃ (wb : Nat) (x : Wd) (G' : List Res), e = .returned (.tuple #[.pointer (some ⟨wb, 0, none⟩), .int .i64 0]) ∧ x.Ok p nd G' ∧ (∀ r ∈ G, r ∈ G') ∧ x.time = 0 ∧ x.links = lnk (whosL p.N.toNat nd) p.N.toNat core links ∧ puL x.ms = gatesP p p.N.toNat ++ nodesP p nd ∧ St w0 F0 w' (x.res p wb L) G' := by
  refine (wnew_any p hp nd hnd core hcl B cb links hll C cc _ _ _ _ _ hst hrn hrc hrl).mono ?_; rintro e w' ⟨wb, ub, uc, LA, lc, ms, G', rfl, hpu, hok, hG, hst⟩; have hw := whos_gn p _ _ hpu; exact ⟨wb, ⟨0, ub, uc, LA, lc, links0 (unL ms) ub p.N.toNat core links, ms⟩, G', rfl, ⟨hok, hw, linksOk_0 _ _ _ _ _⟩, hG, rfl, links0_whos ((whosM_un _).trans hw) (nodW hp nd) _ _ _ _, hpu, hst⟩
end Go.Proofs.YtaanjifekgfemaaGreat.Cl
end
section
namespace Go.Proofs.YtaanjifekgfemaaGreat.Cl
open Tryz
open Go.RowKit Go.Proofs.YtaanjifekgfemaaGreat.K Go.Proofs.YtaanjifekgfemaaGreat.W Go.Proofs.YtaanjifekgfemaaGreat.LN
def runC (c : Cs) (wb n l : Nat) : List Value := csC c ++ [.pointer (some ⟨wb, 0, none⟩), .int .i64 (n : Int), .int .i64 (l : Int)]
end Go.Proofs.YtaanjifekgfemaaGreat.Cl
end
section
namespace Go.Proofs.YtaanjifekgfemaaGreat.Cl
open Tryz
open Go.RowKit Go.Proofs.YtaanjifekgfemaaGreat.K Go.Proofs.YtaanjifekgfemaaGreat.W Go.Proofs.YtaanjifekgfemaaGreat.LN
attribute [local irreducible] bound clip adds sub neg mag mulp mul maxs
theorem fa47_0 : FA 47 0 0 := fun _ _ => by simp [Instr.fieldAt, Instr.sureAddr, go_sem]
theorem eq2_leapT (a b c d : Int) (w : World) : (Op.equalIn 10000 114 (.agg #[.int .i64 a, .int .i64 b]) (.agg #[.int .i64 c, .int .i64 d])).run Tryz.prog w = .ok (decide (a = c ∧ b = d)) w :=
  run_eq2 underlying114 (by kernel_rfl) (by decide) (by decide) rfl rfl underlying3 underlying3 (fun _ => sizeOf3 _) (fun _ => sizeOf3 _) (fun _ => isAgg3 _) (fun _ => isAgg3 _) a b c d w
theorem eqg_leapT : Tryz.prog.eqGuardType Tryz.prog.depth 114 = false := by kernel_rfl
theorem lp_ext {s t : List (Int × Int)} (hl : s.length = t.length) (h : ∀ i, i < s.length → lp s i = lp t i) : s = t := by
  apply List.ext_getElem hl; intro i h1 h2; have := h i h1; unfold lp at this; simpa [h1, h2] using this
set_option maxHeartbeats 2000000 in
theorem tables_any (s t : List (Int × Int)) (h63 : s.length ≤ 9223372036854775807) (A B : Option Addr) (ca cb : Nat) (w0 w : World) (F0 : List Nat) (L G : List Res) (hst : St w0 F0 w L G) (hs : Rds L G (.slice A s.length ca) s.length (lcs s)) (ht : Rds L G (.slice B t.length cb) t.length (lcs t)) :
    Calls Tryz.prog 13 #[.slice A s.length ca, .slice B t.length cb] w fun e w' => ∃ b, e = .returned (.bool b) ∧ b = decide (s = t) ∧ St w0 F0 w' L G := by
  refine W.func func13 rfl ntmps13 rfl<|W.sr rfl<|hst.y rfl (Y.assignB rfl)<|Ops.done rfl<|W.seq rfl<|W.sr rfl<|hst.y rfl (Y.moveS rfl)<|hst.y rfl (Y.lenS underlying41 rfl)<|hst.y rfl (Y.moveS rfl)<|hst.y rfl (Y.lenS underlying41 rfl)<|hst.yb rfl (Y.neq rfl rfl) (fun b10 hb10 => Ops.done rfl<|?_); cases b10
  · replace hb10 := dF hb10; refine W.condF rfl rfl<|W.skip rfl<|W.seq rfl<|W.sr rfl<|hst.y rfl (Y.moveS rfl)<|hst.y rfl (Y.lenS underlying41 rfl)<|hst.y rfl (Y.moveI rfl)<|Ops.done rfl<|W.block rfl<|?_; refine W.loop (γ := Nat) [(0, .slice _ _ _), (1, .slice _ _ _), (12, .int _ _)] (fun k => [(13, .int .i64 (k : Int))]) (fun k w => (k ≤ s.length ∧ ∀ i, i < k → lp s i = lp t i) ∧ St w0 F0 w L G) (fun k => s.length - k) (0) rfl ⟨rfl, rfl, rfl, trivial⟩ ?_ ?_ ?_
    · exact ⟨rfl, trivial⟩
    · exact ⟨⟨by omega, fun i h => by omega⟩, hst⟩
    · clear hst; rintro k j w3 ⟨⟨hk, he⟩, hst⟩; refine W.sr rfl<|hst.yb rfl (Y.lss rfl rfl) (fun b14 hb14 => Ops.done rfl<|W.seq rfl<|?_); cases b14
      · replace hb14 := dF hb14; refine W.condF rfl rfl<|W.exit rfl<|W.seq rfl<|?_; have hk1 : k = s.length := by omega
        refine W.region rfl<|hst.y rfl (Y.assignB rfl)<|Ops.done rfl<|W.ret rfl<|⟨_, Rslt.one results13 rfl, ?_⟩; exact ⟨_, rfl, (decide_eq_true (lp_ext (by omega) (fun i h => he i (by omega)))).symm, hst⟩
      · replace hb14 := dT hb14; refine W.condT rfl rfl<|W.skip rfl<|W.seq rfl<|W.block rfl<|W.sr rfl<|hst.y rfl (Y.moveI rfl)<|hst.y rfl (Y.assignI rfl)<|Ops.done rfl<|W.seq rfl<|?_; have hk1 : k < s.length := by omega
        have hk2 : k < t.length := by omega
        refine hst.dv [] (T0 [0,1,2,3,4,5,6,7,8] .nil) rfl (by kernel_rfl) rfl (by kernel_rfl) fun wd hst => ?_; refine hst.z rfl (Y.moveS rfl)<|hst.z rfl (Y.moveI rfl)<|hst.z rfl (Y.indexAddr underlying41 sizeOf114 rfl rfl ((hs.sl hst).ne (by rw [lcs_length]; omega)) (by omega))<|?_; refine hst.z rfl (Y.loadSlA isAgg114 sizeOf114 rfl hs (lcs_two hk1) rfl)<|hst.z rfl (Y.moveS rfl)<|hst.z rfl (Y.moveI rfl)<|hst.z rfl (Y.indexAddr underlying41 sizeOf114 rfl rfl ((ht.sl hst).ne (by rw [lcs_length]; omega)) (by omega))<|?_; refine hst.z rfl (Y.loadSlA isAgg114 sizeOf114 rfl ht (lcs_two hk2) rfl)<|Drw.yb rfl rfl rfl hst.ctx (Y.ne2 eqg_leapT eq2_leapT rfl rfl) (fun b24 hb24 => Drw.done<|?_); cases b24
        · replace hb24 := dF hb24; refine W.condF rfl rfl<|W.skip rfl<|W.region rfl<|hst.y rfl (Y.addI rfl rfl (by omega))<|hst.y rfl (Y.moveI rfl)<|Ops.done rfl<|?_; have hb24 : (lp s k).1 = (lp t k).1 ∧ (lp s k).2 = (lp t k).2 := by simpa using hb24
          refine ⟨k + 1, ⟨rfl, trivial⟩, ⟨rfl, rfl, rfl, trivial⟩, ⟨⟨by omega, fun i h => ?_⟩, hst⟩, by omega⟩; rcases (show i < k ∨ i = k by omega) with h | rfl
          · exact he i h
          · exact Prod.ext hb24.1 hb24.2
        · replace hb24 := dT hb24; refine W.condT rfl rfl<|W.sr rfl<|hst.y rfl (Y.assignB rfl)<|Ops.done rfl<|W.ret rfl<|⟨_, Rslt.one results13 rfl, ?_⟩; exact ⟨_, rfl, (decide_eq_false (fun h => hb24 (by rw [h]; exact ⟨rfl, rfl⟩))).symm, hst⟩
  · replace hb10 := dT hb10; refine W.condT rfl rfl<|W.sr rfl<|hst.y rfl (Y.assignB rfl)<|Ops.done rfl<|W.ret rfl<|⟨_, Rslt.one results13 rfl, ?_⟩; exact ⟨_, rfl, (decide_eq_false (fun h => hb10 (by rw [h]))).symm, hst⟩
theorem whosL_snocN (k : Nat) : whosL (k + 1) 0 = whosL k 0 ++ [(k : Int)] := by unfold whosL; rw [List.range_succ, List.map_append]; simp
theorem whosL_snoc (N k : Nat) : whosL N (k + 1) = whosL N k ++ [16 + (k : Int)] := by unfold whosL; rw [List.range_succ, List.map_append, List.append_assoc]; simp
theorem ivs_push (l : List Int) (x : Int) : ivs (l ++ [x]) = ivs l ++ [.int .i64 x] := by unfold ivs; rw [List.map_append]; rfl
theorem units_any (rb : Nat) (c : Cs) (wb n l : Nat) (hok : c.p.Ok) (nd : Nat) (hnd : c.nodes = (nd : Int)) (hn2 : nd ≤ 32) (w0 w : World) (F0 : List Nat) (L G : List Res) (hst : St w0 F0 w (cellsR rb (runC c wb n l) 47 :: L) G) :
    Calls Tryz.prog 10 #[.pointer (some ⟨rb, 0, none⟩)] w fun e w' => ∃ A' c', e = .returned (.slice A' (c.p.N.toNat + nd) c') ∧ St w0 F0 w' (rowR (.slice A' (c.p.N.toNat + nd) c') 3 1 (c.p.N.toNat + nd) (ivs (whosL c.p.N.toNat nd)) :: cellsR rb (runC c wb n l) 47 :: L) G := by
  have hN := hok.N; refine W.func func10 rfl ntmps10 rfl<|W.sr rfl<|hst.y rfl (Y.assignS rfl)<|Ops.ds rfl rfl<|hst.y rfl (Y.assignS rfl)<|Ops.done rfl<|W.seq rfl<|W.sr rfl<|?_; replace hst := hst.nilRow 3 1; refine hst.y rfl (Y.assignI rfl)<|Ops.done rfl<|W.block rfl<|?_; refine W.loop (γ := Nat × Option Addr × Nat) [(0, .pointer _)] (fun x => [(4, .int .i64 (x.1 : Int)), (3, .slice x.2.1 x.1 x.2.2)]) (fun x w => x.1 ≤ c.p.N.toNat ∧ St w0 F0 w (rowR (.slice x.2.1 (x.1) x.2.2) 3 1 (x.1) (ivs (whosL x.1 0)) :: cellsR rb (runC c wb n l) 47 :: L) G) (fun x => c.p.N.toNat - x.1) ((0, none, 0)) rfl ⟨rfl, trivial⟩ ?_ ?_ ?_
  · exact ⟨rfl, rfl, trivial⟩
  · exact ⟨Nat.zero_le _, hst⟩
  · clear hst; rintro ⟨k, A5, c5⟩ j w3 ⟨hk, hst⟩; dsimp only at hk; refine W.seq rfl<|W.sr rfl<|hst.y rfl (Y.moveI rfl)<|hst.y rfl (Y.moveP rfl)<|hst.y rfl (Y.nilCheck rfl)<|hst.y rfl (Y.fieldAddr fa47_0 rfl)<|hst.y rfl (Y.fieldAddr fa30_0 rfl)<|hst.y rfl (Y.fieldAddr fa23_0 rfl)<|hst.y rfl (Y.load 1 isAgg3 rfl rfl rfl)<|hst.yb rfl (Y.lss rfl rfl) (fun b13 hb13 => Ops.done rfl<|?_); cases b13
    · replace hb13 := dF hb13; refine W.condF rfl rfl<|W.exit rfl<|W.seq rfl<|W.seq rfl<|?_; obtain rfl : k = c.p.N.toNat := by omega
      refine W.region rfl<|hst.y rfl (Y.assignI rfl)<|Ops.done rfl<|W.block rfl<|?_; refine W.loop (γ := Nat × Option Addr × Nat) [(0, .pointer _)] (fun x => [(5, .int .i64 (x.1 : Int)), (3, .slice x.2.1 (c.p.N.toNat + x.1) x.2.2)]) (fun x w => x.1 ≤ nd ∧ St w0 F0 w (rowR (.slice x.2.1 (c.p.N.toNat + x.1) x.2.2) 3 1 (c.p.N.toNat + x.1) (ivs (whosL c.p.N.toNat x.1)) :: cellsR rb (runC c wb n l) 47 :: L) G) (fun x => nd - x.1) ((0, A5, c5)) rfl ⟨rfl, trivial⟩ ?_ ?_ ?_
      · exact ⟨rfl, rfl, trivial⟩
      · exact ⟨Nat.zero_le _, hst⟩
      · clear hst; rintro ⟨k, A5, c5⟩ j w3 ⟨hk, hst⟩; dsimp only at hk; refine W.seq rfl<|W.sr rfl<|hst.y rfl (Y.moveI rfl)<|hst.y rfl (Y.moveP rfl)<|hst.y rfl (Y.nilCheck rfl)<|hst.y rfl (Y.fieldAddr fa47_0 rfl)<|hst.y rfl (Y.fieldAddr fa30_2 rfl)<|hst.y rfl (Y.load 1 isAgg3 rfl rfl rfl)<|hst.yb rfl (Y.lss rfl rfl) (fun b26 hb26 => Ops.done rfl<|?_); cases b26
        · replace hb26 := dF hb26; refine W.condF rfl rfl<|W.exit rfl<|W.seq rfl<|?_; obtain rfl : k = nd := by omega
          refine W.region rfl<|hst.y rfl (Y.moveS rfl)<|hst.y rfl (Y.assignS rfl)<|Ops.done rfl<|W.ret rfl<|⟨_, Rslt.one results10 rfl, ?_⟩; exact ⟨A5, c5, rfl, hst⟩
        · replace hb26 := dT hb26; refine W.condT rfl rfl<|W.skip rfl<|W.seq rfl<|W.block rfl<|?_; have hwl := whosL_len c.p.N.toNat k; refine W.region rfl<|hst.y rfl (Y.moveS rfl)<|hst.y rfl (Y.moveI rfl)<|hst.y rfl (Y.addI rfl rfl (by omega))<|Ops.ww rfl (X.lits hst underlying24 sizeOf3 zeroValue3 (by rfl) (by rfl) (by rfl) [.int _ _] (by rfl) (by rfl) fun p32 w32 hst => ?_); refine Ops.ww rfl (X.app hst 1 0 underlying24 info3 rfl rfl rfl rfl rfl rfl rfl rfl (by (try dsimp only); unfold maxLen; omega) (by (try dsimp only); omega) fun A33 c33 w33 hst => ?_); refine hst.y rfl (Y.assignS rfl)<|Ops.done rfl<|W.region rfl<|hst.y rfl (Y.moveI rfl)<|hst.y rfl (Y.addI rfl rfl (by omega))<|hst.y rfl (Y.assignI rfl)<|Ops.done rfl<|?_; have hst2 := (hst.dr 1); have e1 : (whosL c.p.N.toNat k ++ [16 + (k : Int)]) = whosL c.p.N.toNat (k + 1) := (whosL_snoc _ k).symm; rw [show ivs (whosL c.p.N.toNat k) ++ [Value.int .i64 (16 + (k : Int))] = ivs (whosL c.p.N.toNat (k + 1)) by rw [← e1, ivs_push]] at hst2; exact ⟨(k + 1, A33, c33), ⟨rfl, rfl, trivial⟩, ⟨rfl, trivial⟩, ⟨by dsimp only; omega, hst2⟩, by dsimp only; omega⟩
    · replace hb13 := dT hb13; refine W.condT rfl rfl<|W.skip rfl<|W.seq rfl<|W.block rfl<|?_; have hwl := whosL_len k 0; refine W.region rfl<|hst.y rfl (Y.moveS rfl)<|hst.y rfl (Y.moveI rfl)<|Ops.ww rfl (X.lits hst underlying24 sizeOf3 zeroValue3 (by rfl) (by rfl) (by rfl) [.int _ _] (by rfl) (by rfl) fun p18 w18 hst => ?_); refine Ops.ww rfl (X.app hst 1 0 underlying24 info3 rfl rfl rfl rfl rfl rfl rfl rfl (by (try dsimp only); unfold maxLen; omega) (by (try dsimp only); omega) fun A19 c19 w19 hst => ?_); refine hst.y rfl (Y.assignS rfl)<|Ops.done rfl<|W.region rfl<|hst.y rfl (Y.moveI rfl)<|hst.y rfl (Y.addI rfl rfl (by omega))<|hst.y rfl (Y.assignI rfl)<|Ops.done rfl<|?_; have hst2 := (hst.dr 1); have e1 : (whosL k 0 ++ [(k : Int)]) = whosL (k + 1) 0 := (whosL_snocN k).symm; rw [show ivs (whosL k 0) ++ [Value.int .i64 (k : Int)] = ivs (whosL (k + 1) 0) by rw [← e1, ivs_push]] at hst2; exact ⟨(k + 1, A19, c19), ⟨rfl, rfl, trivial⟩, ⟨rfl, trivial⟩, ⟨by dsimp only; omega, hst2⟩, by dsimp only; omega⟩
end Go.Proofs.YtaanjifekgfemaaGreat.Cl
end
section
namespace Go.Proofs.YtaanjifekgfemaaGreat.K
open Tryz
open Go.RowKit Go.Proofs.YtaanjifekgfemaaGreat.Cl Go.Proofs.YtaanjifekgfemaaGreat.W Go.Proofs.YtaanjifekgfemaaGreat.LN
section
variable {w0 w : World} {F0 : List Nat} {L G : List Res}
theorem res_perm (pre : List Res) (x : Wd) (p : Par) (wb : Nat) (L : List Res) : (pre ++ x.res p wb L).Perm (x.res p wb (pre ++ L)) := count_pm fun P => by
  unfold Wd.res; simp only [List.countP_append, List.countP_cons]; omega
theorem St.resDn {x : Wd} {p : Par} {wb : Nat} (pre : List Res) (h : St w0 F0 w (pre ++ x.res p wb L) G) : St w0 F0 w (x.res p wb (pre ++ L)) G := h.perm (res_perm pre x p wb L)
theorem St.resUp {x : Wd} {p : Par} {wb : Nat} (pre : List Res) (h : St w0 F0 w (x.res p wb (pre ++ L)) G) : St w0 F0 w (pre ++ x.res p wb L) G := h.perm (res_perm pre x p wb L).symm
end
end Go.Proofs.YtaanjifekgfemaaGreat.K
end
section
namespace Go.Proofs.YtaanjifekgfemaaGreat.Cl
open Tryz
open Go.RowKit Go.Proofs.YtaanjifekgfemaaGreat.K Go.Proofs.YtaanjifekgfemaaGreat.W Go.Proofs.YtaanjifekgfemaaGreat.LN
attribute [local irreducible] bound clip adds sub neg mag mulp mul maxs
theorem bd47_0_1 {S ρ ty} {parts : Array (Nat × Operand)} {x0_0_0 : Int} {x0_0_1 : Int} {x0_0_2 : Int} {x0_0_3 : Int} {x0_0_4 : Int} {x0_0_5 : Int} {x0_0_6 : Int} {x0_0_7 : Int} {x0_0_8 : Int} {x0_0_9 : Int} {x0_0_10 : Int} {x0_0_11 : Int} {x0_1 : Int} {x0_2 : Int} {x0_3a : Option Addr} {x0_3l x0_3c : Nat} {x0_4a : Option Addr} {x0_4l x0_4c : Nat} {x0_5a : Option Addr} {x0_5l x0_5c : Nat} {x0_6a : Option Addr} {x0_6l x0_6c : Nat} {x0_7a : Option Addr} {x0_7l x0_7c : Nat} {x0_8a : Option Addr} {x0_8l x0_8c : Nat} {x1 : Option Addr} (hp : (parts.toList.map fun x => (x.1, ev ρ x.2)) = [(0, .agg #[Value.int .i64 x0_0_0, Value.int .i64 x0_0_1, Value.int .i64 x0_0_2, Value.int .i64 x0_0_3, Value.int .i64 x0_0_4, Value.int .i64 x0_0_5, Value.int .i64 x0_0_6, Value.int .i64 x0_0_7, Value.int .i64 x0_0_8, Value.int .i64 x0_0_9, Value.int .i64 x0_0_10, Value.int .i64 x0_0_11, Value.int .i64 x0_1, Value.int .i64 x0_2, Value.slice x0_3a x0_3l x0_3c, Value.slice x0_4a x0_4l x0_4c, Value.slice x0_5a x0_5l x0_5c, Value.slice x0_6a x0_6l x0_6c, Value.slice x0_7a x0_7l x0_7c, Value.slice x0_8a x0_8l x0_8c]), (1, Value.pointer x1)]) : Y Tryz.prog S ρ (.build 47 parts) ty (.agg #[Value.int .i64 x0_0_0, Value.int .i64 x0_0_1, Value.int .i64 x0_0_2, Value.int .i64 x0_0_3, Value.int .i64 x0_0_4, Value.int .i64 x0_0_5, Value.int .i64 x0_0_6, Value.int .i64 x0_0_7, Value.int .i64 x0_0_8, Value.int .i64 x0_0_9, Value.int .i64 x0_0_10, Value.int .i64 x0_0_11, Value.int .i64 x0_1, Value.int .i64 x0_2, Value.slice x0_3a x0_3l x0_3c, Value.slice x0_4a x0_4l x0_4c, Value.slice x0_5a x0_5l x0_5c, Value.slice x0_6a x0_6l x0_6c, Value.slice x0_7a x0_7l x0_7c, Value.slice x0_8a x0_8l x0_8c, Value.pointer x1, Value.int .i64 0, Value.int .i64 0]) :=
  Y.build hp fun w => by simp [Instr.build, go_sem]
theorem cf20 : CF 20 := fun _ _ => by simp [go_sem]
theorem cf24 : CF 24 := fun _ _ => by simp [go_sem]
theorem cf25 : CF 25 := fun _ _ => by simp [go_sem]
theorem cf26 : CF 26 := fun _ _ => by simp [go_sem]
set_option maxHeartbeats 4000000 in
theorem begun_any (c : Cs) (beats : Int) (hs : c.Small beats) (nd : Nat) (hnd : c.nodes = (nd : Int)) (w0 w : World) (F0 : List Nat) (L G : List Res) (hst : St w0 F0 w L G) (hin : c.In G) (hrn : Rds [] G (.slice none 0 0) 0 []) :
    Calls Tryz.prog 8 #[.agg (csC c).toArray] w fun e w' => ∃ (rb wb : Nat) (x : Wd) (G' : List Res), e = .returned (.pointer (some ⟨rb, 0, none⟩)) ∧ x.Ok c.p nd G' ∧ (∀ r ∈ G, r ∈ G') ∧ x.time = clip c.time ∧ x.links = lnk (whosL c.p.N.toNat nd) c.p.N.toNat c.core c.links ∧ St w0 F0 w' (cellsR rb (runC c wb 0 0) 47 :: x.res c.p wb L) G' := by
  have hok := hs.ok; have hN := hok.N; have hn6 := hs.nodes; have hl1 := hs.core; have hl2 := hs.links; have hl3 := hs.states; have hl4 := hs.frames; have hnd2 : nd ≤ 32 := by omega
  refine W.func func8 rfl ntmps8 rfl<|W.sr rfl<|Ops.ww rfl (X.boxA hst rfl fun p1 w1 hst => hst.y rfl (Y.assignP rfl)<|Ops.ds rfl rfl<|hst.y rfl (Y.fieldAddr fa30_0 rfl)<|hst.y rfl (Y.loadA 0 isAgg23 sizeOf23 rfl rfl rfl rfl)<|hst.y rfl (Y.fieldAddr fa30_2 rfl)<|hst.y rfl (Y.load 0 isAgg3 rfl rfl rfl)<|hst.y rfl (Y.fieldAddr fa30_3 rfl)<|hst.y rfl (Y.load 0 isAgg24 rfl rfl rfl)<|hst.y rfl (Y.fieldAddr fa30_4 rfl)<|hst.y rfl (Y.load 0 isAgg25 rfl rfl rfl)<|Ops.ww rfl (X.call cf20 rfl<|?_)); rw [hnd]; refine use_call (new_W c.p hok nd hnd2 c.core (by omega) _ _ c.links (by omega) _ _ _ _ _ _ _ hst hrn hin.core hin.links) rfl ?_; clear hst; rintro e w20 ⟨wb, x0, G1, rfl, hx0, hG1, ht0, hl0, hpu, hst⟩; replace hst := hst.resUp [_]; refine ⟨_, rfl, ?_⟩; refine hst.y rfl (Y.moveU rfl)<|hst.y rfl (Y.extract rfl rfl)<|hst.y rfl (Y.extract rfl rfl)<|hst.y rfl (Y.assignP rfl)<|hst.y rfl (Y.assignI rfl)<|Ops.done rfl<|W.seq rfl<|W.sr rfl<|hst.y rfl (Y.moveI rfl)<|hst.yb rfl (Y.neq rfl rfl) (fun b24 hb24 => Ops.done rfl<|?_); cases b24
  · replace hb24 := dF hb24; refine W.condF rfl rfl<|W.skip rfl<|W.sr rfl<|hst.y rfl (Y.loadA 0 isAgg30 sizeOf30 rfl rfl rfl rfl)<|hst.y rfl (Y.moveP rfl)<|hst.y rfl (bd47_0_1 rfl)<|Ops.ww rfl (X.boxA hst rfl fun p28 w28 hst => hst.y rfl (Y.assignP rfl)<|Ops.ds rfl rfl<|hst.y rfl (Y.moveP rfl)<|hst.y rfl (Y.fieldAddr fa30_1 rfl)<|hst.y rfl (Y.load 1 isAgg3 rfl rfl rfl)<|Ops.ww rfl (X.call cf24 rfl<|?_)); refine use_call (wset_W c.time wb c.p hok nd hnd2 x0 _ _ _ _ _ (hst.resDn [_, _]) hx0) rfl ?_; clear hst; rintro e w32 ⟨rfl, hst⟩; replace hst := hst.resUp [_, _]; refine ⟨_, rfl, ?_⟩; refine Ops.done rfl<|W.seq rfl<|W.sr rfl<|hst.y rfl (Y.fieldAddr fa30_5 rfl)<|hst.y rfl (Y.load 1 isAgg26 rfl rfl rfl)<|hst.y rfl (Y.lenS underlying26 rfl)<|hst.y rfl (Y.moveI rfl)<|Ops.done rfl<|W.block rfl<|?_; refine W.loop (γ := Nat × Wd × List Res) [(1, .pointer _), (3, .pointer _), (5, .pointer _), (34, .slice _ _ _), (35, .int _ _)] (fun x => [(36, .int .i64 (x.1 : Int))]) (fun x w => (x.1 ≤ c.states.length ∧ x.2.1.Ok c.p nd x.2.2 ∧ (∀ r ∈ G, r ∈ x.2.2) ∧ x.2.1.time = clip c.time ∧ x.2.1.links = lnk (whosL c.p.N.toNat nd) c.p.N.toNat c.core c.links) ∧ St w0 F0 w (cellsR p28 (runC c wb 0 0) 47 :: cellsR p1 (csC c) 30 :: x.2.1.res c.p wb L) x.2.2) (fun x => c.states.length - x.1) ((0, { x0 with time := clip c.time }, G1)) rfl ⟨rfl, rfl, rfl, rfl, rfl, trivial⟩ ?_ ?_ ?_
    · exact ⟨rfl, trivial⟩
    · exact ⟨⟨Nat.zero_le _, ⟨hx0.ms, hx0.who, hx0.links⟩, hG1, rfl, hl0⟩, hst⟩
    · clear hst; rintro ⟨k, x, G1⟩ j w7 ⟨⟨hk, hx, hG1, htm, hlk⟩, hst⟩; dsimp only at hk hx hG1 htm hlk; refine W.sr rfl<|hst.yb rfl (Y.lss rfl rfl) (fun b37 hb37 => Ops.done rfl<|W.seq rfl<|?_); cases b37
      · replace hb37 := dF hb37; refine W.condF rfl rfl<|W.exit rfl<|W.seq rfl<|W.seq rfl<|?_; obtain rfl : k = c.states.length := by omega
        refine W.region rfl<|hst.y rfl (Y.fieldAddr fa30_6 rfl)<|hst.y rfl (Y.load 1 isAgg27 rfl rfl rfl)<|hst.y rfl (Y.lenS underlying27 rfl)<|hst.y rfl (Y.moveI rfl)<|Ops.done rfl<|W.block rfl<|?_; refine W.loop (γ := Nat × Wd × List Res) [(3, .pointer _), (5, .pointer _), (59, .slice _ _ _), (60, .int _ _)] (fun x => [(61, .int .i64 (x.1 : Int))]) (fun x w => (x.1 ≤ c.frames.length ∧ x.2.1.Ok c.p nd x.2.2 ∧ (∀ r ∈ G, r ∈ x.2.2) ∧ x.2.1.time = clip c.time ∧ x.2.1.links = lnk (whosL c.p.N.toNat nd) c.p.N.toNat c.core c.links) ∧ St w0 F0 w (cellsR p28 (runC c wb 0 0) 47 :: cellsR p1 (csC c) 30 :: x.2.1.res c.p wb L) x.2.2) (fun x => c.frames.length - x.1) ((0, x, G1)) rfl ⟨rfl, rfl, rfl, rfl, trivial⟩ ?_ ?_ ?_
        · exact ⟨rfl, trivial⟩
        · exact ⟨⟨Nat.zero_le _, hx, hG1, htm, hlk⟩, hst⟩
        · clear hst; rintro ⟨k, x, G1⟩ j w14 ⟨⟨hk, hx, hG1, htm, hlk⟩, hst⟩; dsimp only at hk hx hG1 htm hlk; refine W.sr rfl<|hst.yb rfl (Y.lss rfl rfl) (fun b62 hb62 => Ops.done rfl<|W.seq rfl<|?_); cases b62
          · replace hb62 := dF hb62; refine W.condF rfl rfl<|W.exit rfl<|W.sr rfl<|hst.y rfl (Y.moveP rfl)<|hst.y rfl (Y.assignP rfl)<|Ops.done rfl<|W.ret rfl<|⟨_, Rslt.one results8 rfl, ?_⟩; exact ⟨p28, wb, x, G1, rfl, hx, hG1, htm, hlk, (hst.sub (.cons_cons _ (.cons _ (.refl _))))⟩
          · replace hb62 := dT hb62; refine W.condT rfl rfl<|W.skip rfl<|W.seq rfl<|W.block rfl<|W.seq rfl<|?_; have hk1 : k < c.frames.length := by omega
            refine W.region rfl<|hst.y rfl (Y.indexAddr underlying27 sizeOf79 rfl rfl (((hin.frames.moreG hG1).hd.sl hst).ne (flat_pos liC_len (by decide) (by omega))) (by omega))<|?_; refine hst.y rfl (Y.loadSlA isAgg79 sizeOf79 rfl (hin.frames.moreG hG1).hd (flat_atI liC_len c.frames k hk1) rfl)<|Ops.ww rfl (X.allocA hst zeroValue79 fun p10 w10 hst => Ops.ww rfl (X.storeS hst 0 sizeOf79 rfl rfl rfl rfl rfl (lZ rfl) rfl rfl fun w16_3 hst => Ops.done rfl<|W.region rfl<|hst.y rfl (Y.moveP rfl)<|hst.y rfl (Y.fieldAddr fa79_0 rfl)<|hst.y rfl (Y.loadA 0 isAgg77 sizeOf77 rfl rfl rfl rfl)<|hst.y rfl (Y.fieldAddr fa79_1 rfl)<|hst.y rfl (Y.load 0 isAgg9 rfl rfl rfl)<|Ops.ww rfl (X.call cf26 rfl<|?_))); refine use_call (put_W (c.frames[k].from_, c.frames[k].to) c.frames[k].text wb c.p hok nd hnd2 x _ _ _ _ _ (hst.resDn [_, _, _]) hx) rfl ?_; clear hst; rintro e w70 ⟨v70, x2, rfl, hx2, ht2, hl2', hst⟩; replace hst := hst.resUp [_, _, _]; refine ⟨_, rfl, ?_⟩; refine Ops.done rfl<|W.region rfl<|hst.y rfl (Y.addI rfl rfl (by omega))<|hst.y rfl (Y.moveI rfl)<|Ops.done rfl<|?_; exact ⟨(k + 1, x2, G1), ⟨rfl, trivial⟩, ⟨rfl, rfl, rfl, rfl, trivial⟩, ⟨⟨by dsimp only; omega, hx2, hG1, ht2.trans htm, hl2'.trans hlk⟩, (hst.dr 1)⟩, by dsimp only; omega⟩
      · replace hb37 := dT hb37; refine W.condT rfl rfl<|W.skip rfl<|W.seq rfl<|W.block rfl<|W.seq rfl<|?_; have hk1 : k < c.states.length := by omega
        have hT : TabFit c.states[k].s.tab := ⟨by have := hs.tabs _ (List.getElem_mem hk1); omega, (hin.tabs _ (List.getElem_mem hk1)).1⟩; refine W.region rfl<|hst.y rfl (Y.moveI rfl)<|hst.y rfl (Y.indexAddr underlying26 sizeOf57 rfl rfl (((hin.states.moreG hG1).hd.sl hst).ne (flat_pos sdC_len (by decide) (by omega))) (by omega))<|?_; refine hst.y rfl (Y.loadSlA isAgg57 sizeOf57 rfl (hin.states.moreG hG1).hd (flat_atI sdC_len c.states k hk1) rfl)<|Ops.ww rfl (X.allocA hst zeroValue57 fun p7 w7 hst => hst.y rfl (Y.assignI rfl)<|Ops.ww rfl (X.storeS hst 0 sizeOf57 rfl rfl rfl rfl rfl (lZ rfl) rfl rfl fun w8_5 hst => Ops.ds rfl rfl<|hst.y rfl (Y.moveI rfl)<|hst.y rfl (Y.assignI rfl)<|Ops.done rfl<|W.seq rfl<|W.sr rfl<|hst.y rfl (Y.moveI rfl)<|hst.y rfl (Y.fieldAddr fa30_0 rfl)<|hst.y rfl (Y.fieldAddr fa23_0 rfl)<|hst.y rfl (Y.load 2 isAgg3 rfl rfl rfl)<|hst.yb rfl (Y.geq rfl rfl) (fun b46 hb46 => Ops.done rfl<|?_))); cases b46
        · replace hb46 := dF hb46; refine W.condF rfl rfl<|W.skip rfl<|W.region rfl<|hst.y rfl (Y.moveP rfl)<|hst.y rfl (Y.moveI rfl)<|hst.y rfl (Y.loadA 0 isAgg57 sizeOf57 rfl rfl rfl rfl)<|Ops.ww rfl (X.call cf25 rfl<|?_); refine use_call (begin_W _ c.states[k].s c.states[k].A c.states[k].cap hT wb c.p hok nd hnd2 x _ _ _ _ _ (hst.resDn [_, _, _]) hx ((hin.tabs _ (List.getElem_mem hk1)).2.moreG hG1)) rfl ?_; clear hst; rintro e w56 ⟨x2, G2, rfl, hx2, hG2, ht2, hl2', hst⟩; replace hst := hst.resUp [_, _, _]; refine ⟨_, rfl, ?_⟩; refine Ops.done rfl<|W.region rfl<|hst.y rfl (Y.addI rfl rfl (by omega))<|hst.y rfl (Y.moveI rfl)<|Ops.done rfl<|?_; exact ⟨(k + 1, x2, G2), ⟨rfl, trivial⟩, ⟨rfl, rfl, rfl, rfl, rfl, trivial⟩, ⟨⟨by dsimp only; omega, hx2, fun r hr => hG2 r (hG1 r hr), ht2.trans htm, hl2'.trans hlk⟩, (hst.dr 1)⟩, by dsimp only; omega⟩
        · replace hb46 := dT hb46; refine W.condT rfl rfl<|W.region rfl<|hst.y rfl (Y.moveI rfl)<|hst.y rfl (Y.addI rfl rfl (by omega))<|hst.y rfl (Y.fieldAddr fa30_0 rfl)<|hst.y rfl (Y.fieldAddr fa23_0 rfl)<|hst.y rfl (Y.load 2 isAgg3 rfl rfl rfl)<|hst.y rfl (Y.subI rfl rfl (by omega))<|hst.y rfl (Y.assignI rfl)<|Ops.done rfl<|W.region rfl<|hst.y rfl (Y.moveP rfl)<|hst.y rfl (Y.moveI rfl)<|hst.y rfl (Y.loadA 0 isAgg57 sizeOf57 rfl rfl rfl rfl)<|Ops.ww rfl (X.call cf25 rfl<|?_); refine use_call (begin_W _ c.states[k].s c.states[k].A c.states[k].cap hT wb c.p hok nd hnd2 x _ _ _ _ _ (hst.resDn [_, _, _]) hx ((hin.tabs _ (List.getElem_mem hk1)).2.moreG hG1)) rfl ?_; clear hst; rintro e w56 ⟨x2, G2, rfl, hx2, hG2, ht2, hl2', hst⟩; replace hst := hst.resUp [_, _, _]; refine ⟨_, rfl, ?_⟩; refine Ops.done rfl<|W.region rfl<|hst.y rfl (Y.addI rfl rfl (by omega))<|hst.y rfl (Y.moveI rfl)<|Ops.done rfl<|?_; exact ⟨(k + 1, x2, G2), ⟨rfl, trivial⟩, ⟨rfl, rfl, rfl, rfl, rfl, trivial⟩, ⟨⟨by dsimp only; omega, hx2, fun r hr => hG2 r (hG1 r hr), ht2.trans htm, hl2'.trans hlk⟩, (hst.dr 1)⟩, by dsimp only; omega⟩
  · replace hb24 := dT hb24; exact absurd rfl hb24
theorem fa47_1 : FA 47 1 20 := fun _ _ => by simp [Instr.fieldAt, Instr.sureAddr, go_sem]
theorem cf9 : CF 9 := fun _ _ => by simp [go_sem]
theorem cf10 : CF 10 := fun _ _ => by simp [go_sem]
end Go.Proofs.YtaanjifekgfemaaGreat.Cl
end
section
namespace Go.Proofs.YtaanjifekgfemaaGreat.Cl
open Tryz
open Go.RowKit Go.Proofs.YtaanjifekgfemaaGreat.K Go.Proofs.YtaanjifekgfemaaGreat.W Go.Proofs.YtaanjifekgfemaaGreat.LN
theorem nodup_at {α : Type} {l : List α} (hn : l.Nodup) {i j : Nat} {x : α} (hi : l[i]? = some x) (hj : l[j]? = some x) : i = j := by
  unfold List.Nodup at hn; rw [List.pairwise_iff_getElem] at hn; obtain ⟨h1, rfl⟩ := List.getElem?_eq_some_iff.1 hi; obtain ⟨h3, h4⟩ := List.getElem?_eq_some_iff.1 hj; rcases Nat.lt_trichotomy i j with h | h | h
  · exact absurd h4.symm (hn i j h1 h3 h)
  · exact h
  · exact absurd h4 (hn j i h3 h1 h)
def qStep (who w : Int) (fr : ByteArray) (s : Stp) (q : Qs) (l : Int × Int) : Qs := if l.1 ≠ who ∨ l ∈ s.lost ∨ l.2 ≠ w then q else pushQ q who (textOf who fr l s.lies)
def qSend (who w : Int) (fr : ByteArray) (s : Stp) (links : List (Int × Int)) (q : Qs) : Qs := links.foldl (qStep who w fr s) q
theorem pushAt_at {us : List Un} {ws : List Int} (h : us.map (fun u => u.who) = ws) (hn : ws.Nodup) {ms : List UM} {i : Nat} {m : UM} {wi : Int} (hm : ms[i]? = some m) (hw : ws[i]? = some wi) (who : Int) (t : ByteArray) {to : Int} (hto : to ∈ ws) :
    (pushAt us ms who t to)[i]? = some (if to = wi then m.setQs (pushQ m.u.qs who t) else m) := by
  obtain ⟨j, hj⟩ := List.getElem?_of_mem hto; have hi := (idx_at h hn hj).1; unfold pushAt modAt idxOf; rw [hi, Int.toNat_natCast]
  by_cases e : to = wi
  · rw [if_pos e]; subst e; have hij : i = j := nodup_at hn hw hj; subst hij; rw [hm]; dsimp only; rw [List.getElem?_set_self (List.getElem?_eq_some_iff.1 hm).1]
  · rw [if_neg e]; have hij : j ≠ i := fun hji => by subst hji; rw [hw] at hj; injection hj with hj; exact e hj.symm
    split
    · rw [List.getElem?_set_ne hij, hm]
    · exact hm
theorem sendF_at {us : List Un} {ws : List Int} (h : us.map (fun u => u.who) = ws) (hn : ws.Nodup) {ms : List UM} {i : Nat} {m : UM} {wi : Int} (hm : ms[i]? = some m) (hw : ws[i]? = some wi) (who : Int) (fr : ByteArray) (s : Stp) (links : List (Int × Int)) (hl : ∀ l ∈ links, l.2 ∈ ws) :
    (sendF us who fr s ms links)[i]? = some (m.setQs (qSend who wi fr s links m.u.qs)) := by
  unfold sendF qSend
  induction links generalizing ms m with
  | nil => exact hm
  | cons l ls ih =>
    have hl1 := hl l (by simp); have hl2 : ∀ l ∈ ls, l.2 ∈ ws := fun x hx => hl x (by simp [hx]); rw [List.foldl_cons, List.foldl_cons]
    by_cases hc : l.1 ≠ who ∨ l ∈ s.lost
    · have e1 : sendStep us who fr s ms l = ms := if_pos hc; have e2 : qStep who wi fr s m.u.qs l = m.u.qs := if_pos (by rcases hc with hc | hc <;> simp [hc]); rw [e1, e2]; exact ih hm hl2
    · have e1 : sendStep us who fr s ms l = pushAt us ms who (textOf who fr l s.lies) l.2 := if_neg hc; rw [e1]; have e3 := pushAt_at h hn hm hw who (textOf who fr l s.lies) hl1; rw [ih e3 hl2]
      by_cases e : l.2 = wi
      · have e2 : qStep who wi fr s m.u.qs l = pushQ m.u.qs who (textOf who fr l s.lies) := if_neg (by rintro (hx | hx | hx); exact hc (.inl hx); exact hc (.inr hx); exact hx e); rw [if_pos e, e2]; rfl
      · have e2 : qStep who wi fr s m.u.qs l = m.u.qs := if_pos (.inr (.inr e)); rw [if_neg e, e2]
def qOne (us : List Un) (w : Int) (s : Stp) (links : List (Int × Int)) (sd : List Hd) (q : Qs) (j : Nat) : Qs := match us[j]?, sd[j]? with
  | some u, some h => if u.who ∈ s.off then q else qSend u.who w (encM h.m) s links q
  | _, _ => q
def qAll (us : List Un) (w : Int) (s : Stp) (links : List (Int × Int)) (sd : List Hd) (q : Qs) (k : Nat) : Qs := (List.range k).foldl (qOne us w s links sd) q
theorem qAll_succ (us : List Un) (w : Int) (s : Stp) (links : List (Int × Int)) (sd : List Hd) (q : Qs) (k : Nat) : qAll us w s links sd q (k + 1) = qOne us w s links sd (qAll us w s links sd q k) k := by unfold qAll; rw [List.range_succ, List.foldl_append]; rfl
theorem sendAll_at {us : List Un} {ws : List Int} (h : us.map (fun u => u.who) = ws) (hn : ws.Nodup) {ms : List UM} {i : Nat} {m : UM} {wi : Int} (hm : ms[i]? = some m) (hw : ws[i]? = some wi) (s : Stp) (links : List (Int × Int)) (hl : ∀ l ∈ links, l.2 ∈ ws) (sd : List Hd) (k : Nat) :
    (sendAll us s links sd ms k)[i]? = some (m.setQs (qAll us wi s links sd m.u.qs k)) := by
  induction k with
  | zero => exact hm
  | succ k ih =>
    rw [sendAll_succ, qAll_succ]; unfold sendOne qOne
    cases us[k]? with
    | none => exact ih
    | some u =>
      cases sd[k]? with
      | none => exact ih
      | some hd =>
        dsimp only
        by_cases ho : u.who ∈ s.off
        · rw [if_pos ho, if_pos ho]; exact ih
        · rw [if_neg ho, if_neg ho]; exact sendF_at h hn ih hw u.who (encM hd.m) s links hl
theorem pushQ_len (q : Qs) (who : Int) (t : ByteArray) : (pushQ q who t).length = q.length := by unfold pushQ; split <;> simp
theorem pushQ_row {q : Qs} (hq : q.length = 48) {who : Int} (hw : 0 ≤ who ∧ who < 48) (t : ByteArray) (f : Nat) (hf : f < 48) :
    (pushQ q who t).getD f [] = if (f : Int) = who ∧ t.size ≤ 4096 then putQ (q.getD f []) t else q.getD f [] := by
  unfold pushQ
  by_cases hs : t.size ≤ 4096
  · rw [if_pos ⟨hw, hs⟩]
    by_cases hfw : (f : Int) = who
    · rw [if_pos ⟨hfw, hs⟩]; subst hfw
      unfold qat
      rw [Int.toNat_natCast, List.getD_eq_getElem?_getD, List.getElem?_set_self (by omega)]; rfl
    · rw [if_neg (fun h => hfw h.1), List.getD_eq_getElem?_getD, List.getD_eq_getElem?_getD, List.getElem?_set_ne (by omega)]
  · rw [if_neg (fun h => hs h.2), if_neg (fun h => hs h.2)]
theorem qStep_len (who w : Int) (fr : ByteArray) (s : Stp) (q : Qs) (l : Int × Int) : (qStep who w fr s q l).length = q.length := by unfold qStep; split; rfl; exact pushQ_len _ _ _
theorem qSend_len (who w : Int) (fr : ByteArray) (s : Stp) (links : List (Int × Int)) (q : Qs) : (qSend who w fr s links q).length = q.length := by
  unfold qSend
  induction links generalizing q with
  | nil => rfl
  | cons l ls ih => rw [List.foldl_cons, ih, qStep_len]
theorem qSend_no {who w : Int} {fr : ByteArray} {s : Stp} {links : List (Int × Int)} (h : (who, w) ∉ links) (q : Qs) : qSend who w fr s links q = q := by
  unfold qSend
  induction links generalizing q with
  | nil => rfl
  | cons l ls ih =>
    have e : qStep who w fr s q l = q := by
      unfold qStep; refine if_pos<|Classical.byContradiction fun hc => h<|?_; have h1 : l.1 = who := Classical.byContradiction fun hx => hc (.inl hx); have h2 : l.2 = w := Classical.byContradiction fun hx => hc (.inr (.inr hx)); have : l = (who, w) := Prod.ext h1 h2; rw [← this]; exact .head _
    rw [List.foldl_cons, e]; exact ih (fun hx => h (.tail _ hx)) q
theorem qSend_one {who w : Int} {fr : ByteArray} {s : Stp} (hs : s.lost = []) {links : List (Int × Int)} (hn : links.Nodup) (h : (who, w) ∈ links) (q : Qs) : qSend who w fr s links q = pushQ q who (textOf who fr (who, w) s.lies) := by
  unfold qSend
  induction links generalizing q with
  | nil => cases h
  | cons l ls ih =>
    have hn2 := List.nodup_cons.1 hn; rw [List.foldl_cons]
    by_cases e : l = (who, w)
    · subst e
      have e1 : qStep who w fr s q (who, w) = pushQ q who (textOf who fr (who, w) s.lies) := by
        unfold qStep; rw [if_neg]; rintro (h1 | h1 | h1)
        · exact h1 rfl
        · rw [hs] at h1; cases h1
        · exact h1 rfl
      rw [e1]; exact qSend_no hn2.1 _
    · have hm : (who, w) ∈ ls := by
        rcases List.mem_cons.1 h with h | h
        · exact absurd h.symm e
        · exact h
      have e1 : qStep who w fr s q l = q := by
        unfold qStep; refine if_pos<|Classical.byContradiction fun hc => e<|?_; have h1 : l.1 = who := Classical.byContradiction fun hx => hc (.inl hx); have h2 : l.2 = w := Classical.byContradiction fun hx => hc (.inr (.inr hx)); exact Prod.ext h1 h2
      rw [e1]; exact ih hn2.2 hm q
def oneOf (who w : Int) (fr : ByteArray) (s : Stp) (links : List (Int × Int)) : List It := if (who, w) ∈ links ∧ (textOf who fr (who, w) s.lies).size ≤ 4096 then [(textOf who fr (who, w) s.lies, 0)] else []
theorem qSend_row {who w : Int} (hw : 0 ≤ who ∧ who < 48) {fr : ByteArray} {s : Stp} (hs : s.lost = []) {links : List (Int × Int)} (hn : links.Nodup) {q : Qs} (hq : q.length = 48) (f : Nat) (hf : f < 48) :
    (qSend who w fr s links q).getD f [] = if (f : Int) = who ∧ (who, w) ∈ links ∧ (textOf who fr (who, w) s.lies).size ≤ 4096 then putQ (q.getD f []) (textOf who fr (who, w) s.lies) else q.getD f [] := by
  by_cases h : (who, w) ∈ links
  · rw [qSend_one hs hn h, pushQ_row hq hw _ f hf]
    by_cases h2 : (f : Int) = who ∧ (textOf who fr (who, w) s.lies).size ≤ 4096
    · rw [if_pos h2, if_pos ⟨h2.1, h, h2.2⟩]
    · rw [if_neg h2, if_neg (fun hx => h2 ⟨hx.1, hx.2.2⟩)]
  · rw [qSend_no h, if_neg (fun hx => h hx.2.1)]
theorem qAll_len (us : List Un) (w : Int) (s : Stp) (links : List (Int × Int)) (sd : List Hd) (q : Qs) (k : Nat) : (qAll us w s links sd q k).length = q.length := by
  induction k with
  | zero => rfl
  | succ k ih =>
    rw [qAll_succ]; unfold qOne; split
    · split
      · exact ih
      · rw [qSend_len]; exact ih
    · exact ih
theorem qs0_len : qs0.length = 48 := by simp [qs0]
theorem qs0_row (f : Nat) : qs0.getD f [] = [] := by
  unfold qs0; rw [List.getD_eq_getElem?_getD]
  cases h : (List.replicate 48 ([] : List It))[f]? with
  | none => rfl
  | some x => rw [List.eq_of_mem_replicate (List.mem_of_getElem? h)]; rfl
theorem lane_step {us : List Un} {ws : List Int} (h : us.map (fun u => u.who) = ws) (hw : ∀ x ∈ ws, 0 ≤ x ∧ x < 48) {w : Int} {s : Stp} (hs : s.lost = []) (ho : s.off = []) {links : List (Int × Int)} (hnl : links.Nodup) {sd : List Hd} {k : Nat} {u : Un} {hd : Hd} (hu : us[k]? = some u) (hh : sd[k]? = some hd) (f : Nat) (hf : f < 48) {q : Qs} (hq : q.length = 48) :
    (qOne us w s links sd q k).getD f [] = if (f : Int) = u.who ∧ (u.who, w) ∈ links ∧ (textOf u.who (encM hd.m) (u.who, w) s.lies).size ≤ 4096 then putQ (q.getD f []) (textOf u.who (encM hd.m) (u.who, w) s.lies) else q.getD f [] := by
  have hwu : 0 ≤ u.who ∧ u.who < 48 := hw _ (by rw [← h]; exact List.mem_map.2 ⟨u, List.mem_of_getElem? hu, rfl⟩); unfold qOne; rw [hu, hh]; dsimp only; rw [if_neg (by rw [ho]; exact fun hx => by cases hx)]; exact qSend_row hwu hs hnl hq f hf
theorem lane_at {us : List Un} {ws : List Int} (h : us.map (fun u => u.who) = ws) (hn : ws.Nodup) (hw : ∀ x ∈ ws, 0 ≤ x ∧ x < 48) {w : Int} {s : Stp} (hs : s.lost = []) (ho : s.off = []) {links : List (Int × Int)} (hnl : links.Nodup) {sd : List Hd} (hsl : sd.length = us.length)
    {j : Nat} {hd : Hd} (f : Nat) (hf : f < 48) (hj : ws[j]? = some (f : Int)) (hh : sd[j]? = some hd) : (qAll us w s links sd qs0 us.length).getD f [] = oneOf f w (encM hd.m) s links := by
  have main : ∀ k, k ≤ us.length → (qAll us w s links sd qs0 k).getD f [] = if j < k then oneOf f w (encM hd.m) s links else [] := by
    intro k
    induction k with
    | zero => intro _; rw [if_neg (by omega)]; exact qs0_row f
    | succ k ih =>
      intro hk; obtain ⟨u, hu⟩ : ∃ u, us[k]? = some u := ⟨_, List.getElem?_eq_getElem (by omega)⟩; obtain ⟨h2, hh2⟩ : ∃ u, sd[k]? = some u := ⟨_, List.getElem?_eq_getElem (by omega)⟩; have hku : ws[k]? = some u.who := by rw [← h, List.getElem?_map, hu]; rfl
      rw [qAll_succ, lane_step h hw hs ho hnl hu hh2 f hf ((qAll_len ..).trans qs0_len), ih (by omega)]
      by_cases e : k = j
      · subst e; rw [hh] at hh2; injection hh2 with hh2; subst hh2; have e2 : u.who = (f : Int) := by rw [hj] at hku; injection hku with hku; exact hku.symm
        rw [e2, if_neg (show ¬ k < k by omega), if_pos (show k < k + 1 by omega)]; unfold oneOf
        by_cases hc : ((f : Int), w) ∈ links ∧ (textOf (f : Int) (encM hd.m) ((f : Int), w) s.lies).size ≤ 4096
        · rw [if_pos ⟨rfl, hc⟩, if_pos hc]; rfl
        · rw [if_neg (fun hx => hc hx.2), if_neg hc]
      · have e2 : (f : Int) ≠ u.who := fun e2 => by rw [← e2] at hku; exact e (nodup_at hn hku hj)
        rw [if_neg (fun hx => e2 hx.1)]
        by_cases hl : j < k
        · rw [if_pos hl, if_pos (by omega)]
        · rw [if_neg hl, if_neg (by omega)]
  have hjl : j < us.length := by
    have := (List.getElem?_eq_some_iff.1 hj).1; rw [← h, List.length_map] at this; exact this
  rw [main _ (Nat.le_refl _), if_pos hjl]
theorem lane_no {us : List Un} {ws : List Int} (h : us.map (fun u => u.who) = ws) (hw : ∀ x ∈ ws, 0 ≤ x ∧ x < 48) {w : Int} {s : Stp} (hs : s.lost = []) (ho : s.off = []) {links : List (Int × Int)} (hnl : links.Nodup) {sd : List Hd} (hsl : sd.length = us.length)
    (f : Nat) (hf : f < 48) (hj : (f : Int) ∉ ws) : (qAll us w s links sd qs0 us.length).getD f [] = [] := by
  have main : ∀ k, k ≤ us.length → (qAll us w s links sd qs0 k).getD f [] = [] := by
    intro k
    induction k with
    | zero => intro _; exact qs0_row f
    | succ k ih =>
      intro hk; obtain ⟨u, hu⟩ : ∃ u, us[k]? = some u := ⟨_, List.getElem?_eq_getElem (by omega)⟩; obtain ⟨h2, hh2⟩ : ∃ u, sd[k]? = some u := ⟨_, List.getElem?_eq_getElem (by omega)⟩; have hku : u.who ∈ ws := by rw [← h]; exact List.mem_map.2 ⟨u, List.mem_of_getElem? hu, rfl⟩
      rw [qAll_succ, lane_step h hw hs ho hnl hu hh2 f hf ((qAll_len ..).trans qs0_len), ih (by omega), if_neg (fun hx => hj (by rw [hx.1]; exact hku))]
  exact main _ (Nat.le_refl _)
end Go.Proofs.YtaanjifekgfemaaGreat.Cl
end
section
namespace Go.Proofs.YtaanjifekgfemaaGreat.W
open Tryz
open Go.RowKit Go.Proofs.YtaanjifekgfemaaGreat.K Go.Proofs.YtaanjifekgfemaaGreat.CM
theorem by8_nat (n : Int) (j : Nat) : (by8 n j).toNat = (n % 18446744073709551616).toNat / 2 ^ (8 * (7 - j)) % 256 := by
  unfold by8; rw [UInt8.toNat_ofNat', show (2 : Nat) ^ 8 = 256 from rfl]
theorem be8_eq (n : Int) : be8 n = [by8 n 0, by8 n 1, by8 n 2, by8 n 3, by8 n 4, by8 n 5, by8 n 6, by8 n 7] := rfl
theorem rdn_be8 (n : Int) : rdn (be8 n) = (n % 18446744073709551616).toNat := by
  rw [be8_eq]; simp only [rdn, List.foldl_cons, List.foldl_nil, by8_nat]; have h : (n % 18446744073709551616).toNat < 18446744073709551616 := by omega
  generalize (n % 18446744073709551616).toNat = u at h; simp only [Nat.reduceSub, Nat.reduceMul, Nat.reducePow]; omega
theorem rd8_be8 (n : Int) (h : In64 n) : rd8 (be8 n) = n := by
  unfold rd8; rw [rdn_be8, IntKind.wrap_i64]; unfold In64 at h; omega
theorem opn_sealed (p : List UInt8) : opn (sealed p) = some p := by
  unfold opn; have h1 : (sealed p).length = p.length + 4 := sealed_len p; have h2 : (sealed p).take ((sealed p).length - 4) = p := by rw [h1]; unfold sealed; simp
  have h3 : (sealed p).drop ((sealed p).length - 4) = le4 (crc p) := by rw [h1]; unfold sealed; simp
  rw [if_neg (by omega), h2, h3, if_pos rfl]
theorem nums_cons (x : Int) (l : List Int) : nums (x :: l) = be8 x ++ nums l := rfl
theorem nums_chunk : ∀ (xs : List Int) (i : Nat), i < xs.length → ((nums xs).drop (8 * i)).take 8 = be8 (xs.getD i 0)
  | [], _, h => by simp at h
  | x :: l, 0, _ => by
    rw [nums_cons, Nat.mul_zero, List.drop_zero, List.take_append_of_le_length (by simp), List.take_of_length_le (by simp)]; rfl
  | x :: l, i + 1, h => by
    rw [nums_cons, show 8 * (i + 1) = (be8 x).length + 8 * i by rw [be8_length]; omega, List.drop_append, List.drop_of_length_le (by omega), List.nil_append, Nat.add_sub_cancel_left]; exact nums_chunk l i (by simpa using h)
theorem numAt_of {hd : List UInt8} {xs : List Int} {i : Nat} (h4 : hd.length = 4) (hi : i < xs.length) (hw : ∀ x ∈ xs, In64 x) : numAt (hd ++ nums xs) i = xs.getD i 0 := by
  unfold numAt; rw [List.drop_append, List.drop_of_length_le (by omega), List.nil_append, h4, Nat.add_sub_cancel_left, nums_chunk xs i hi]; exact rd8_be8 _ (hw _ (getD_mem hi))
theorem ub_nat {n : Int} (h : 0 ≤ n ∧ n < 256) : ((ub n).toNat : Int) = n := by
  unfold ub; rw [UInt8.toNat_ofNat', show (2 : Nat) ^ 8 = 256 from rfl]; omega
theorem tin_get : ∀ (l : List (Int × Int)) (i : Nat), i < l.length → (tin l).getD (2 * i) 0 = (l.getD i (0, 0)).1 ∧ (tin l).getD (2 * i + 1) 0 = (l.getD i (0, 0)).2
  | [], _, h => by simp at h
  | x :: l, 0, _ => ⟨rfl, rfl⟩
  | x :: l, i + 1, h => by
    have := tin_get l i (by simpa using h); rw [show 2 * (i + 1) = 2 * i + 1 + 1 by omega]; exact this
def M.xs (m : M) : List Int := [m.slo, m.shi, m.held, m.hops, m.elo, m.ehi, m.pulse, m.time, m.num] ++ tin m.tab
def M.fr (m : M) : List UInt8 := W.fr m.kind m.from_ m.slo m.shi m.held m.hops m.good m.ref m.elo m.ehi m.pulse m.time m.num m.tab
theorem M.fr_eq (m : M) : m.fr = hd4 m.kind m.from_ m.good m.ref m.tab.length ++ nums m.xs := by
  unfold M.fr W.fr M.xs; rw [nums_append, List.append_assoc]
def M.In (m : M) : Prop := MsgIn m.kind m.from_ m.slo m.shi m.held m.hops m.elo m.ehi m.pulse m.time m.num m.tab
theorem M.xs_in {m : M} (h : m.In) : ∀ x ∈ m.xs, In64 x := by
  obtain ⟨_, h2, h3⟩ := h; intro x hx; unfold M.xs at hx; rcases List.mem_append.1 hx with hx | hx
  · exact nines h3 x hx
  · simp only [tin, List.mem_flatMap] at hx; obtain ⟨y, hy, hx⟩ := hx; have := h2 y hy; simp only [List.mem_cons, List.not_mem_nil, or_false] at hx; rcases hx with rfl | rfl
    · exact this.1
    · exact this.2
theorem M.nth {m : M} (h : m.In) {i : Nat} (hi : i < 9 + 2 * m.tab.length) : numAt m.fr i = m.xs.getD i 0 := by
  rw [M.fr_eq]; exact numAt_of rfl (by unfold M.xs; rw [List.length_append, tin_length]; exact hi) (M.xs_in h)
theorem rdM_fr (m : M) (hok : m.Ok) (h : m.In) : rdM m.fr = m := by
  obtain ⟨⟨hk, hf, _⟩, ht, _⟩ := hok; have g0 : gb m.fr 0 = ub m.kind := rfl; have g1 : gb m.fr 1 = ub m.from_ := rfl; have g2 : gb m.fr 2 = ub (fl m.good m.ref) := rfl; have g3 : gb m.fr 3 = ub (m.tab.length : Int) := rfl; have e3 : (ub (m.tab.length : Int)).toNat = m.tab.length := by have := ub_nat (n := m.tab.length) (by omega); omega
  have et : rdTab m.fr m.tab.length = m.tab := by
    apply List.ext_getElem
    · rw [rdTab_length]
    · intro i h1 h2; have hg := tin_get m.tab i h2; have hn1 := M.nth h (i := 9 + 2 * i) (by omega); have hn2 := M.nth h (i := 10 + 2 * i) (by omega); have c1 : m.xs.getD (9 + 2 * i) 0 = (tin m.tab).getD (2 * i) 0 := by rw [show 9 + 2 * i = 2 * i + 1 + 1 + 1 + 1 + 1 + 1 + 1 + 1 + 1 by omega]; rfl
      have c2 : m.xs.getD (10 + 2 * i) 0 = (tin m.tab).getD (2 * i + 1) 0 := by rw [show 10 + 2 * i = 2 * i + 1 + 1 + 1 + 1 + 1 + 1 + 1 + 1 + 1 + 1 by omega]; rfl
      have hgd : m.tab.getD i (0, 0) = m.tab[i] := by simp [h2]
      simp only [rdTab, List.getElem_map, List.getElem_range]; rw [hn1, hn2, c1, c2, hg.1, hg.2, hgd]
  have n0 := M.nth h (i := 0) (by omega); have n1 := M.nth h (i := 1) (by omega); have n2 := M.nth h (i := 2) (by omega); have n3 := M.nth h (i := 3) (by omega); have n4 := M.nth h (i := 4) (by omega); have n5 := M.nth h (i := 5) (by omega); have n6 := M.nth h (i := 6) (by omega); have n7 := M.nth h (i := 7) (by omega); have n8 := M.nth h (i := 8) (by omega); have b0 := ub_nat (n := m.kind) (by omega); have b1 := ub_nat (n := m.from_) (by omega); have f1 : decide ((ub (fl m.good m.ref)).toNat % 2 = 1) = m.good := by cases m.good <;> cases m.ref <;> rfl
  have f2 : decide ((ub (fl m.good m.ref)).toNat / 2 % 2 = 1) = m.ref := by cases m.good <;> cases m.ref <;> rfl
  unfold rdM; rw [g0, g1, g2, g3, e3, et, n0, n1, n2, n3, n4, n5, n6, n7, n8, b0, b1, f1, f2]; rfl
theorem form_fr (m : M) (hok : m.Ok) : FormOk m.fr := by
  have ht : m.tab.length ≤ 32 := hok.2.1; have e3 : (ub (m.tab.length : Int)).toNat = m.tab.length := by have := ub_nat (n := m.tab.length) (by omega); omega
  have hl : m.fr.length = 76 + 16 * m.tab.length := fr_length ..; have g2 : gb m.fr 2 = ub (fl m.good m.ref) := rfl; have g3 : gb m.fr 3 = ub (m.tab.length : Int) := rfl; refine ⟨by omega, by rw [g3, e3, hl], ?_⟩; rw [g2]; cases m.good <;> cases m.ref <;> decide
theorem decR_fr (m : M) (hok : m.Ok) (h : m.In) : decR (sealed m.fr) = (m, 0) := by
  have ht : m.tab.length ≤ 32 := hok.2.1; have hl : m.fr.length = 76 + 16 * m.tab.length := fr_length ..; have e := rdM_fr m hok h; rw [decR_ok (p := m.fr) (by rw [sealed_len]; omega) (opn_sealed _) (form_fr m hok) (by rw [e]; exact hok), e]
end Go.Proofs.YtaanjifekgfemaaGreat.W
end
section
namespace Go.Proofs.YtaanjifekgfemaaGreat.Cl
open Tryz
open Go.RowKit Go.Proofs.YtaanjifekgfemaaGreat.K Go.Proofs.YtaanjifekgfemaaGreat.W Go.Proofs.YtaanjifekgfemaaGreat.LN Go.Proofs.YtaanjifekgfemaaGreat.CM
theorem enc_bytes {m : M} (h : m.Ok) : encM m = str (sealed m.fr) := by
  unfold encM encV; rw [if_pos (show Okm m.kind m.from_ m.slo m.shi m.held m.hops m.elo m.ehi m.pulse m.time m.num m.tab from h)]; rfl
theorem enc_dec {m : M} (h : m.Ok) : decR (encM m).data.toList = (m, 0) := by
  rw [enc_bytes h]; exact decR_fr m h (ok_in h)
theorem enc_size {m : M} (h : m.Ok) : (encM m).size ≤ 4096 := by
  rw [enc_bytes h, ← toList_len]; show (sealed m.fr).length ≤ 4096; rw [sealed_len]; have hl : m.fr.length = 76 + 16 * m.tab.length := fr_length ..; have ht : m.tab.length ≤ 32 := h.2.1; omega
theorem rowH_one {m : M} (h : m.Ok) {f : Nat} (hf : m.from_ = (f : Int)) (age c : Int) : rowH f age [(encM m, c)] = [(m, age)] := by
  unfold rowH decF; simp only [List.filterMap_cons, List.filterMap_nil]; rw [enc_dec h, if_pos ⟨rfl, hf⟩]
theorem rowH_of {f : Nat} {age : Int} {q : List It} {y : M × Int} (h : y ∈ rowH f age q) : y.1.from_ = (f : Int) ∧ y.1.Ok ∧ y.2 = age := by
  have h1 := rowH_mem h; obtain ⟨x, hx, h2, h3⟩ := h1.2; refine ⟨h1.1, by rw [h2]; exact dec_ok h3, ?_⟩; unfold rowH at h; obtain ⟨z, hz, hy⟩ := List.mem_filterMap.1 h; unfold decF at hy; split at hy
  · injection hy with hy; subst hy; rfl
  · cases hy
def Hon (s : Stp) (f : Int) : Prop := 16 ≤ f ∨ ∀ x ∈ s.lies, x.from_ ≠ f
theorem textOf_hon {s : Stp} {f : Int} (h : Hon s f) (fr : ByteArray) (w : Int) : textOf f fr (f, w) s.lies = fr := by
  unfold textOf
  have : ∀ (l : List Li), (16 ≤ f ∨ ∀ x ∈ l, x.from_ ≠ f) → ∀ t, l.foldl (fun t x => if (x.from_ = (f, w).1 ∧ x.to = (f, w).2) ∧ f < 16 then x.text else t) t = t := by
    intro l
    induction l with
    | nil => intro _ t; rfl
    | cons x l ih =>
      intro h t; rw [List.foldl_cons, if_neg]
      · exact ih (h.imp id fun h y hy => h y (.tail _ hy)) t
      · rintro ⟨⟨h1, _⟩, h2⟩; rcases h with h | h
        · omega
        · exact h x (.head _) h1
  exact this s.lies h fr
structure One (p : Par) (s : Stp) (u u' : PU) (msg : M) : Prop where
  who : u'.who = u.who
  inp : ∃ i, InpOf p s u.who u.qs i ∧ BeatC p u i u' msg
theorem BeatC.qs {p : Par} {u u' : PU} {i : Inp} {msg : M} {q : Qs} (h : BeatC p u i u' msg) : BeatC p u i { u' with qs := q } msg := h
structure Beats (p : Par) (s : Stp) (ws : List Int) (links : List (Int × Int)) (us us' : List PU) (sd : List M) : Prop where
  len : us'.length = us.length
  one : ∀ (k : Nat) (u : PU), us[k]? = some u → ∃ (u' : PU) (m : M), us'[k]? = some u' ∧ sd[k]? = some m ∧ One p s u u' m ∧ m.Ok ∧ m.from_ = u.who
  lane : ∀ (k : Nat) (u' : PU), us'[k]? = some u' → ∀ f : Nat, f < 48 → ((f : Int) ∉ ws → u'.qs.getD f [] = []) ∧ ∀ (j : Nat) (m : M), ws[j]? = some (f : Int) → sd[j]? = some m → u'.qs.getD f [] = oneOf f u'.who (encM m) s links
theorem beatC_msg {p : Par} (hp : p.Ok) {u u' : PU} {i : Inp} {msg : M} (h : BeatC p u i u' msg) (hf : u.s.Fit p) (hw : 0 ≤ u.who ∧ u.who ≤ 47) : msg.Ok ∧ msg.from_ = u.who := by
  rcases h with ⟨h1, h2, h3, rfl⟩ | ⟨h1, clock, tab, h2, h3, h4, rfl⟩
  · exact ⟨gateMsg_ok hp hf hw i, rfl⟩
  · exact ⟨nodeMsg_ok hp hf hw _ _ _, rfl⟩
theorem StepW.beats {p : Par} (hp : p.Ok) {s : Stp} {G G' : List Res} {x x' : Wd} {nd : Nat} (hnd : nd ≤ 32) (h : StepW p s G G' x x') (hx : x.Ok p nd G) (ho : s.off = []) (hl : s.lost = []) (hnl : x'.links.Nodup) (hlk : LinksOk (unL x'.ms) x'.links) :
    ∃ sd, Beats p s (whosL p.N.toNat nd) x'.links (puL x.ms) (puL x'.ms) sd := by
  obtain ⟨ms1, sd, hr, he⟩ := h.run; have hus := hx.un; have hnw := nodW hp nd; have hlen := unL_length x.ms; have hl2 : ∀ l ∈ x'.links, l.2 ∈ whosL p.N.toNat nd := (linksOk_whos ((whosM_un _).trans (by rw [← whosM_un, h.un, whosM_un]; exact hx.who)) hnw _).1 hlk
  have hw48 : ∀ y ∈ whosL p.N.toNat nd, 0 ≤ y ∧ y < 48 := by
    intro y hy; rw [whosL_mem] at hy; have := hp.N; omega
  have hl1 : ms1.length = x.ms.length := by have := congrArg List.length hr.un; rw [unL_length, unL_length] at this; exact this
  have hsd : sd.length = x.ms.length := hr.len
  have key : ∀ (k : Nat) (m : UM), x.ms[k]? = some m → ∃ (m1 : UM) (hd : Hd), ms1[k]? = some m1 ∧ sd[k]? = some hd ∧ BeatU p s m.u m1.u hd.m ∧ x'.ms[k]? = some (m1.setQs (qAll (unL x.ms) m.u.who s x'.links sd qs0 (unL x.ms).length)) := by
    intro k m hm; have hk := (List.getElem?_eq_some_iff.1 hm).1; obtain ⟨m1, hm1⟩ : ∃ m1, ms1[k]? = some m1 := ⟨_, List.getElem?_eq_getElem (by omega)⟩; obtain ⟨hd, hhd⟩ : ∃ hd, sd[k]? = some hd := ⟨_, List.getElem?_eq_getElem (by omega)⟩; have hb := hr.done k m m1 hd hm hm1 hhd (by omega); have hwk : (whosL p.N.toNat nd)[k]? = some m.u.who := by rw [← hx.who]; unfold whosM; rw [List.getElem?_map, hm]; rfl
    have h1 := sendAll_at hus hnw hm1 hwk s x'.links hl2 sd (unL x.ms).length; rw [← he] at h1; refine ⟨m1, hd, hm1, hhd, hb, ?_⟩; rw [h1]; have e : m1.u.qs = qs0 := hb.2.1; rw [e]
  refine ⟨sd.map (·.m), ⟨?_, ?_, ?_⟩⟩
  · unfold puL; rw [List.length_map, List.length_map]; have := congrArg List.length h.un; rw [unL_length, unL_length] at this; exact this
  · intro k u hu; unfold puL at hu ⊢; rw [List.getElem?_map] at hu; obtain ⟨m, hm, rfl⟩ := Option.map_eq_some_iff.1 hu; obtain ⟨m1, hd, h1, h2, h3, h4⟩ := key k m hm; obtain ⟨e1, e2, e3⟩ := h3; rcases e3 with ⟨e3, _⟩ | ⟨e3, i, hi, hb⟩
    · rw [ho] at e3; cases e3
    · have hmm := List.mem_of_getElem? hm; have hmo := beatC_msg hp hb (hx.ms m hmm).fit (whos_in hx hp hnd m hmm); refine ⟨(m1.setQs (qAll (unL x.ms) m.u.who s x'.links sd qs0 (unL x.ms).length)).u, hd.m, by rw [List.getElem?_map, h4]; rfl, by rw [List.getElem?_map, h2]; rfl, ⟨e1, i, hi, hb⟩, hmo⟩
  · intro k u' hu' f hf; unfold puL at hu'; rw [List.getElem?_map] at hu'; obtain ⟨m', hm', rfl⟩ := Option.map_eq_some_iff.1 hu'
    have hk : k < x.ms.length := by
      have h1 := (List.getElem?_eq_some_iff.1 hm').1; have := congrArg List.length h.un; rw [unL_length, unL_length] at this; omega
    obtain ⟨m1, hd, h1, h2, h3, h4⟩ := key k x.ms[k] (List.getElem?_eq_getElem hk); rw [hm'] at h4; injection h4 with h4; subst h4; have hwho : (m1.setQs (qAll (unL x.ms) (x.ms[k]).u.who s x'.links sd qs0 (unL x.ms).length)).u.who = (x.ms[k]).u.who := h3.1; refine ⟨fun hn => ?_, fun j m hj hm => ?_⟩
    · exact lane_no hus hw48 hl ho hnl (by rw [hsd, hlen]) f hf hn
    · rw [List.getElem?_map] at hm; obtain ⟨hdj, hh, rfl⟩ := Option.map_eq_some_iff.1 hm; rw [hwho]; exact lane_at hus hnw hw48 hl ho hnl (by rw [hsd, hlen]) f hf hj hh
theorem heard_cell {p : Par} {s : Stp} {ws : List Int} {links : List (Int × Int)} {us us' : List PU} {sd : List M} (h : Beats p s ws links us us' sd) (hws : us.map (fun u => u.who) = ws) {k : Nat} {u' : PU} (hk : us'[k]? = some u') {f : Nat} (hf : f < 48) (age : Int) :
    ((f : Int) ∉ ws ∨ ((f : Int), u'.who) ∉ links → rowH f age (u'.qs.getD f []) = []) ∧
    (∀ (j : Nat) (m : M), ws[j]? = some (f : Int) → sd[j]? = some m → ((f : Int), u'.who) ∈ links → Hon s (f : Int) → rowH f age (u'.qs.getD f []) = [(m, age)]) ∧
    ∀ y ∈ rowH f age (u'.qs.getD f []), y.1.from_ = (f : Int) ∧ y.1.Ok ∧ y.2 = age := by
  have hl := h.lane k u' hk f hf
  have hat : ∀ (j : Nat), ws[j]? = some (f : Int) → ∃ m : M, sd[j]? = some m ∧ m.Ok ∧ m.from_ = (f : Int) := by
    intro j hj; rw [← hws, List.getElem?_map] at hj; obtain ⟨u, hu, e⟩ := Option.map_eq_some_iff.1 hj; obtain ⟨_, m, _, h2, _, h4, h5⟩ := h.one j u hu; exact ⟨m, h2, h4, h5.trans e⟩
  refine ⟨?_, ?_, fun y hy => rowH_of hy⟩
  · intro hc
    by_cases hw : (f : Int) ∈ ws
    · obtain ⟨j, hj⟩ := List.getElem?_of_mem hw; obtain ⟨m, hm, _⟩ := hat j hj; rw [hl.2 j m hj hm]; unfold oneOf; rw [if_neg (fun hx => (hc.resolve_left (fun h => h hw)) hx.1)]; rfl
    · rw [hl.1 hw]; rfl
  · intro j m hj hm hlk hh; obtain ⟨m2, hm2, hok, hfr⟩ := hat j hj; rw [hm] at hm2; injection hm2 with hm2; subst hm2; rw [hl.2 j m hj hm]; unfold oneOf; rw [textOf_hon hh, if_pos ⟨hlk, enc_size hok⟩]; exact rowH_one hok hfr age 0
def pA : Par := ⟨1, 0, 4, 1000, 1, 100, 10, 50, 20, 6, 5000, 1000⟩
theorem pA_ok : pA.Ok := by constructor <;> decide
theorem heard_nil (age : Nat → Int) {qs : Qs} (h : ∀ f, f < 48 → rowH f (age f) (qs.getD f []) = []) : heardP qs age 48 = [] := by
  unfold heardP; rw [List.flatMap_eq_nil_iff]; intro f hf; exact h f (List.mem_range.1 hf)
theorem heardP_qs0 (age : Nat → Int) : heardP qs0 age 48 = [] := heard_nil age fun f _ => by rw [qs0_row]; rfl
theorem heard_one (age : Nat → Int) {qs : Qs} {y : M × Int} (h0 : rowH 0 (age 0) (qs.getD 0 []) = [y]) (h : ∀ f, f < 48 → f ≠ 0 → rowH f (age f) (qs.getD f []) = []) : heardP qs age 48 = [y] := by
  unfold heardP; rw [List.range_succ_eq_map, List.flatMap_cons, h0]
  have : ((List.range 47).map Nat.succ).flatMap (fun f => rowH f (age f) (qs.getD f [])) = [] := by
    rw [List.flatMap_eq_nil_iff]; intro f hf; obtain ⟨g, hg, rfl⟩ := List.mem_map.1 hf; rw [List.mem_range] at hg; exact h _ (by omega) (by omega)
  rw [this]; rfl
def sA1 : Stt := stampS (gateBeat pA 0 (sane pA S00) ⟨1000, [], none, 0, true, 5000, false, [], none, 0⟩)
def mA1 : M := gateMsg pA 0 (sane pA S00) ⟨1000, [], none, 0, true, 5000, false, [], none, 0⟩
def sB1 : Stt := stampS (nodeBeat pA [] (sane pA S00) 1000 [])
theorem hA2 (HA : Option Addr) (hcap : Nat) (tb : List (Int × Int)) (TA : Option Addr) (tcap : Nat) : healthOf pA (stampS (gateBeat pA 0 sA1 ⟨1000, [], HA, hcap, false, 0, false, tb, TA, tcap⟩)) = 1 := by kernel_rfl
theorem hB2 (A : Option Addr) (c clock : Nat) : healthOf pA (stampS (nodeBeat pA (knownK 16 [] clock [⟨mA1, A, c, 900⟩]).out sB1 1000 [])) = 1 := by kernel_rfl
theorem hB3 (A : Option Addr) (c clock : Nat) : (knownK 16 [] clock [⟨mA1, A, c, 900⟩]).out = [⟨mA1, A, c, 900⟩] := by kernel_rfl
theorem mA1_tab : mA1.tab = [] := by kernel_rfl
theorem sB1_tab : sB1.tab = [] := by kernel_rfl
theorem alive_plain {links : List (Int × Int)} (hlk : links = [(0, 16)]) {us us1 us2 : List PU} (hus : us = gatesP pA 1 ++ nodesP pA 1) {s1 s2 : Stp} {sd1 sd2 : List M} (A : Option Addr) (c : Nat)
    (h1 : s1.reads = [⟨0, true, 5000, false, [], A, c⟩] ∧ s1.ticks = [] ∧ s1.ages = [] ∧ s1.lies = []) (h2 : s2.reads = [] ∧ s2.ticks = [] ∧ s2.ages = [] ∧ s2.lies = [])
    (b1 : Beats pA s1 (whosL 1 1) links us us1 sd1) (b2 : Beats pA s2 (whosL 1 1) links us1 us2 sd2) :
    ∃ u v, us2 = [u, v] ∧ healthOf pA u.s = 1 ∧ healthOf pA v.s = 1 := by
  obtain ⟨r1, t1, a1, l1⟩ := h1; obtain ⟨r2, t2, a2, l2⟩ := h2; have g0 : us[0]? = some (freshP pA 0 S00) := by rw [hus]; rfl
  have g1 : us[1]? = some (freshP pA 16 S00) := by rw [hus]; rfl
  have hul : us.length = 2 := by rw [hus]; rfl
  have hws : us.map (fun u => u.who) = whosL 1 1 := by rw [hus]; decide
  obtain ⟨u1, m1, hu1, hm1, ⟨w1, i1, hi1, c1⟩, ok1, fr1⟩ := b1.one 0 _ g0; obtain ⟨v1, n1, hv1, hn1, ⟨x1, k1, hk1, d1⟩, _, _⟩ := b1.one 1 _ g1
  have hh1 : i1.heard = [] := by
    have := hi1.heard; rw [show (freshP pA 0 S00).qs = qs0 from rfl, heardP_qs0] at this; exact List.map_eq_nil_iff.1 this
  have hh2 : k1.heard = [] := by
    have := hk1.heard; rw [show (freshP pA 16 S00).qs = qs0 from rfl, heardP_qs0] at this; exact List.map_eq_nil_iff.1 this
  have e1 : u1.s = sA1 ∧ m1 = mA1 := by
    obtain ⟨it, ir, ird, ig, itb, _⟩ := hi1; rw [t1] at it; rw [t1, r1] at ir ird ig itb; have it2 : i1.ticks = 1000 := it; have ir2 : i1.ref = true := ir; have ird2 : i1.reading = 5000 := ird; have ig2 : i1.given = false := ig; have itb2 : i1.tab = [] := itb; rcases c1 with ⟨_, hs, _, hm⟩ | ⟨hc, _⟩
    · obtain ⟨f1, f2, f3, f4, f5, f6, f7, f8, f9, f10⟩ := i1; simp only at hh1 it2 ir2 ird2 ig2 itb2; subst hh1; subst it2; subst ir2; subst ird2; subst ig2; subst itb2; exact ⟨hs, hm⟩
    · exact absurd (show (0 : Int) < 16 by decide) hc
  have e2 : v1.s = sB1 ∧ v1.es = [] := by
    have it : k1.ticks = tickOf pA 16 s1.ticks := hk1.ticks; rw [t1] at it; have it2 : k1.ticks = 1000 := it; rcases d1 with ⟨hc, _⟩ | ⟨_, clock, tab, hct, hs, hes, _⟩
    · exact absurd hc (show ¬ (16 : Int) < 16 by decide)
    · rw [hh2] at hct hs hes; rw [it2] at hs
      have ht : tab = [] := by
        rcases hct with hct | ⟨h, hh, _⟩
        · exact hct
        · cases hh
      subst ht; exact ⟨hs, hes⟩
  have hw1 : us1.map (fun u => u.who) = whosL 1 1 := by
    have hl1 := b1.len
    obtain ⟨a, b, rfl⟩ : ∃ a b, us1 = [a, b] := by
      match us1, hl1 with
      | [a, b], _ => exact ⟨a, b, rfl⟩
      | [], h => rw [hul] at h; cases h
      | [_], h => rw [hul] at h; cases h
      | _ :: _ :: _ :: _, h => rw [hul] at h; simp at h
    have ea : a = u1 := by injection hu1
    have eb : b = v1 := by injection hv1
    subst ea; subst eb; show [a.who, b.who] = _; rw [w1, x1]
    decide
  obtain ⟨u2, m2, hu2, hm2, ⟨w2, i2, hi2, c2⟩, _, _⟩ := b2.one 0 _ hu1; obtain ⟨v2, n2, hv2, hn2, ⟨x2, k2, hk2, d2⟩, _, _⟩ := b2.one 1 _ hv1; have w1' : u1.who = 0 := w1; have x1' : v1.who = 16 := x1; have cell0 := fun (f : Nat) (hf : f < 48) (age : Int) => heard_cell b1 hws hu1 hf age; have cell1 := fun (f : Nat) (hf : f < 48) (age : Int) => heard_cell b1 hws hv1 hf age
  have hh3 : i2.heard = [] := by
    have := hi2.heard
    rw [heard_nil _ (fun f hf => (cell0 f hf _).1 (.inr (by
      rw [hlk, w1']; intro hx; rcases List.mem_singleton.1 hx with hx
      exact absurd (congrArg Prod.snd hx) (show ¬ (0 : Int) = 16 by decide))))] at this
    exact List.map_eq_nil_iff.1 this
  have hh4 : ∃ h : Hd, k2.heard = [h] ∧ h.m = mA1 ∧ h.age = 900 := by
    have := hk2.heard; rw [heard_one (y := (m1, 900)) _ ?_ ?_] at this
    · match hk : k2.heard, this with
      | [h], this =>
        injection this with h3 _; refine ⟨h, rfl, ?_, ?_⟩
        · rw [← e1.2]; exact congrArg Prod.fst h3
        · exact congrArg Prod.snd h3
      | [], this => cases this
      | _ :: _ :: _, this => injection this with _ h3; cases h3
    · have := (cell1 0 (by decide) (ageOf pA v1.who s2.ages 0)).2.1 0 m1 rfl hm1 (by rw [hlk, x1']; exact .head _) (.inr (fun x hx => by rw [l1] at hx; cases hx)); rw [this, a2]; rfl
    · intro f hf h0; refine (cell1 f hf _).1 (.inr ?_); rw [hlk]; intro hx; rcases List.mem_singleton.1 hx with hx
      have := congrArg Prod.fst hx; dsimp only at this; omega
  have f1 : healthOf pA u2.s = 1 := by
    have it : i2.ticks = tickOf pA u1.who s2.ticks := hi2.ticks; have ir := hi2.ref; have ig := hi2.given; rw [t2, r2] at ir ig; rw [t2] at it; have it2 : i2.ticks = 1000 := it; have ir2 : i2.ref = false := ir; have ig2 : i2.given = false := ig; have ird2 : i2.reading = 0 := by have := hi2.reading; rw [t2, r2] at this; exact this
    rcases c2 with ⟨_, hs, _, hm⟩ | ⟨hc, _⟩
    · rw [hs, e1.1, w1']; obtain ⟨f1, f2, f3, f4, f5, f6, f7, f8, f9, f10⟩ := i2; simp only at hh3 it2 ir2 ig2 ird2; subst hh3; subst it2; subst ir2; subst ig2; subst ird2; exact hA2 _ _ _ _ _
    · exact absurd (show u1.who < 16 by rw [w1']; decide) hc
  have f2 : healthOf pA v2.s = 1 := by
    obtain ⟨h, e4, e5, e6⟩ := hh4; have it : k2.ticks = tickOf pA v1.who s2.ticks := hk2.ticks; rw [t2] at it; have it2 : k2.ticks = 1000 := it; rcases d2 with ⟨hc, _⟩ | ⟨_, clock, tab, hct, hs, hes, _⟩
    · exact absurd hc (show ¬ v1.who < 16 by rw [x1']; decide)
    · obtain ⟨hm, hA, hcp, ha⟩ := h; simp only at e5 e6; subst e5; subst e6; have h5 := hB3 hA hcp clock; have e7 : (knownK v1.who v1.es clock k2.heard).out = [⟨mA1, hA, hcp, 900⟩] := by rw [e4, x1', e2.2]; exact h5
      rw [e7] at hct hs; rw [e2.1] at hct
      have ht : tab = [] := by
        rcases hct with hct | ⟨h, hh, hht⟩
        · exact hct.trans sB1_tab
        · have h6 : h ∈ [(⟨mA1, hA, hcp, 900⟩ : Hd)] := (told_mem (coreF_mem hh).1).1; rw [List.mem_singleton] at h6; rw [hht, h6]; exact mA1_tab
      subst ht; rw [hs, e2.1, it2, ← h5]; exact hB2 hA hcp clock
  have hl2 : us2.length = 2 := by rw [b2.len, b1.len, hul]
  refine ⟨u2, v2, ?_, f1, f2⟩
  match us2, hl2 with
  | [a, b], _ =>
    have ea : a = u2 := by injection hu2
    have eb : b = v2 := by injection hv2
    rw [ea, eb]
end Go.Proofs.YtaanjifekgfemaaGreat.Cl
end
section
namespace Go.Proofs.YtaanjifekgfemaaGreat.Cl
open Tryz
open Go.RowKit Go.Proofs.YtaanjifekgfemaaGreat.K Go.Proofs.YtaanjifekgfemaaGreat.W Go.Proofs.YtaanjifekgfemaaGreat.LN
attribute [local irreducible] bound clip adds sub neg mag mulp mul maxs
theorem bd23_0_2_3_4_5_6_7_8_9_10_11 {S ρ ty} {parts : Array (Nat × Operand)} {x0 : Int} {x2 : Int} {x3 : Int} {x4 : Int} {x5 : Int} {x6 : Int} {x7 : Int} {x8 : Int} {x9 : Int} {x10 : Int} {x11 : Int} (hp : (parts.toList.map fun x => (x.1, ev ρ x.2)) = [(0, Value.int .i64 x0), (2, Value.int .i64 x2), (3, Value.int .i64 x3), (4, Value.int .i64 x4), (5, Value.int .i64 x5), (6, Value.int .i64 x6), (7, Value.int .i64 x7), (8, Value.int .i64 x8), (9, Value.int .i64 x9), (10, Value.int .i64 x10), (11, Value.int .i64 x11)]) : Y Tryz.prog S ρ (.build 23 parts) ty (.agg #[Value.int .i64 x0, Value.int .i64 0, Value.int .i64 x2, Value.int .i64 x3, Value.int .i64 x4, Value.int .i64 x5, Value.int .i64 x6, Value.int .i64 x7, Value.int .i64 x8, Value.int .i64 x9, Value.int .i64 x10, Value.int .i64 x11]) :=
  Y.build hp fun w => by simp [Instr.build, go_sem]
theorem bd40_ {S ρ ty} {parts : Array (Nat × Operand)}  (hp : (parts.toList.map fun x => (x.1, ev ρ x.2)) = []) : Y Tryz.prog S ρ (.build 40 parts) ty (.agg #[Value.slice none 0 0, Value.slice none 0 0, Value.slice none 0 0, Value.slice none 0 0, Value.slice none 0 0, Value.slice none 0 0, Value.slice none 0 0, Value.slice none 0 0]) :=
  Y.build hp fun w => by simp [Instr.build, go_sem]
theorem bd40_1 {S ρ ty} {parts : Array (Nat × Operand)} {x1a : Option Addr} {x1l x1c : Nat} (hp : (parts.toList.map fun x => (x.1, ev ρ x.2)) = [(1, Value.slice x1a x1l x1c)]) : Y Tryz.prog S ρ (.build 40 parts) ty (.agg #[Value.slice none 0 0, Value.slice x1a x1l x1c, Value.slice none 0 0, Value.slice none 0 0, Value.slice none 0 0, Value.slice none 0 0, Value.slice none 0 0, Value.slice none 0 0]) :=
  Y.build hp fun w => by simp [Instr.build, go_sem]
theorem bd43_0_1_2 {S ρ ty} {parts : Array (Nat × Operand)} {x0 : Int} {x1 : Bool} {x2 : Int} (hp : (parts.toList.map fun x => (x.1, ev ρ x.2)) = [(0, Value.int .i64 x0), (1, Value.bool x1), (2, Value.int .i64 x2)]) : Y Tryz.prog S ρ (.build 43 parts) ty (.agg #[Value.int .i64 x0, Value.bool x1, Value.int .i64 x2, Value.bool false, Value.slice none 0 0]) :=
  Y.build hp fun w => by simp [Instr.build, go_sem]
theorem cf11 : CF 11 := fun _ _ => by simp [go_sem]
theorem res_front {x : Wd} {k : Nat} {m : UM} (hk : x.ms[k]? = some m) (p : Par) (wb : Nat) (L : List Res) : ∃ (T : TypeId) (rest : List Value) (L' : List Res), (x.res p wb L).Perm (frR m.fb T p m.u.s m.A m.cap rest :: L') := by
  have hf : (x.ms.map (UM.fres p))[k]? = some (m.fres p) := by rw [List.getElem?_map, hk]; rfl
  have p1 := flatten_at hf
  have key : ∃ (T : TypeId) (rest : List Value) (r : List Res), m.fres p = frR m.fb T p m.u.s m.A m.cap rest :: r := by
    unfold UM.fres; cases m.gate
    · exact ⟨_, _, _, rfl⟩
    · exact ⟨_, _, _, rfl⟩
  obtain ⟨T, rest, r, e⟩ := key; rw [e] at p1
  have h : ∀ (a b c : Res) (A B Z L : List Res) (f : Res), B.Perm (f :: Z) → (a :: b :: c :: (A ++ (B ++ L))).Perm (f :: (a :: b :: c :: (A ++ (Z ++ L)))) := by
    intro a b c A B Z L f hp; refine count_pm fun P => ?_; have := hp.countP_eq P; simp only [List.countP_append, List.countP_cons] at this ⊢; omega
  rw [List.cons_append] at p1; exact ⟨T, rest, _, h _ _ _ _ _ _ _ _ p1⟩
theorem StepW.links_id {p : Par} {stp : Stp} {G G' : List Res} {x x' : Wd} (h : StepW p stp G G' x x') (h1 : stp.cut = []) (h2 : stp.join = []) : x'.links = x.links := by
  rw [h.links, h1, h2]; rfl
theorem res_sub (x : Wd) (p : Par) (wb : Nat) (L : List Res) : L.Sublist (x.res p wb L) := by
  unfold Wd.res; exact .cons _ (.cons _ (.cons _ ((List.sublist_append_right _ _).trans (List.sublist_append_right _ _))))
theorem health_W {x : Wd} {k : Nat} {m : UM} (hk : x.ms[k]? = some m) (p : Par) (wb : Nat) (w0 w : World) (F0 : List Nat) (L G : List Res) (hst : St w0 F0 w (x.res p wb L) G) :
    Calls Tryz.prog 21 #[.pointer (some ⟨m.fb, 0, none⟩)] w fun e w' => e = .returned (.int .i64 (healthOf p m.u.s)) ∧ St w0 F0 w' (x.res p wb L) G := by
  obtain ⟨T, rest, L', hp⟩ := res_front hk p wb L; refine (health_any m.fb T p m.u.s m.A m.cap rest _ _ _ _ _ (hst.perm hp)).mono ?_; rintro e w' ⟨h1, hst⟩; exact ⟨h1, hst.perm hp.symm⟩
set_option maxHeartbeats 4000000 in
theorem alive_any (tbl : List Int) (htl : tbl.length = 20) (w0 w : World) (F0 : List Nat) (L G : List Res) (hst : St w0 F0 w L G) (hrn : Rds [] G (.slice none 0 0) 0 []) (hpw : powR tbl ∈ G) :
    Calls Tryz.prog 6 #[] w fun e w' => e = .returned (.bool true) ∧ St w0 F0 w' L G := by
  refine W.func func6 rfl ntmps6 rfl<|W.sr rfl<|hst.y rfl (Y.assignB rfl)<|Ops.ds rfl rfl<|hst.y rfl (bd23_0_2_3_4_5_6_7_8_9_10_11 rfl)<|Ops.ww rfl (X.allocA hst zeroValue23 fun p1 w1 hst => Ops.ww rfl (X.storeS hst 0 sizeOf23 rfl rfl rfl rfl rfl (lZ rfl) rfl rfl fun w1_2 hst => Ops.ds rfl rfl<|hst.y rfl (Y.loadA 0 isAgg23 sizeOf23 rfl rfl rfl rfl)<|Ops.ww rfl (X.lits hst underlying24 sizeOf3 zeroValue3 (by rfl) (by rfl) (by rfl) [.int _ _] (by rfl) (by rfl) fun p7 w7 hst => ?_))); refine Ops.ww rfl (X.call cf20 rfl ?_); refine use_call (new_W pA pA_ok 1 (by decide) [0] (by decide) (some ⟨p7, 0, none⟩) 1 [] (by decide) none 0 _ _ _ _ _ hst.toFact (hrn.moreG (fun r h => .tail _ h)) (Rds.ofCellsG 0 rfl 1 1) (hrn.moreG (fun r h => .tail _ h))) rfl ?_; clear hst; rintro e w8 ⟨wb, x, G1, rfl, hx, hG1, ht0, hl0, hpu, hst⟩; replace hst := hst.resUp [_]; refine ⟨_, rfl, ?_⟩; refine hst.y rfl (Y.moveU rfl)<|hst.y rfl (Y.extract rfl rfl)<|hst.y rfl (Y.extract rfl rfl)<|hst.y rfl (Y.assignP rfl)<|hst.y rfl (Y.assignI rfl)<|Ops.done rfl<|W.seq rfl<|W.sr rfl<|hst.y rfl (Y.moveI rfl)<|hst.yb rfl (Y.neq rfl rfl) (fun b12 hb12 => Ops.done rfl<|?_); cases b12
  · replace hb12 := dF hb12; refine W.condF rfl rfl<|W.skip rfl<|W.seq rfl<|?_; have hl0' : x.links = [(0, 16)] := hl0.trans (by decide); have hpw1 : powR tbl ∈ G1 := hG1 _ (.tail _ hpw); have hrn1 : Rds [] G1 (.slice none 0 0) 0 [] := hrn.moreG (fun r h => hG1 r (.tail _ h)); refine W.region rfl<|hst.y rfl (Y.moveP rfl)<|hst.y rfl (bd43_0_1_2 rfl)<|Ops.ww rfl (X.lit1 hst underlying37 sizeOf43 zeroValue43 rfl rfl rfl fun p15 w15 hst => hst.y rfl (bd40_1 rfl)<|?_); replace hst := hst.toFact
    have hs1 : (⟨[], [⟨0, true, 5000, false, [], none, 0⟩], [], [], [], [], [], [], (none, 0), (some ⟨p15, 0, none⟩, 1), (none, 0), (none, 0), (none, 0), (none, 0), (none, 0), (none, 0)⟩ : Stp).Ok (cellsR p15 (flat rdC [(⟨0, true, 5000, false, [], none, 0⟩ : Rd)]) 43 :: G1) := by
      have hrn9 := hrn1.moreG (G' := cellsR p15 (flat rdC [(⟨0, true, 5000, false, [], none, 0⟩ : Rd)]) 43 :: G1) (fun r h => .tail _ h); refine ⟨hrn9, Rds.ofCellsG 0 rfl 1 1, hrn9, hrn9, hrn9, hrn9, hrn9, hrn9, by simp, ?_⟩; intro r hr; rcases List.mem_singleton.1 hr with rfl
      exact ⟨goodTab_fit goodTab_nil, hrn9⟩
    refine Ops.ww rfl (X.call cf9 rfl ?_); refine use_call (beat_W tbl htl (⟨[], [⟨0, true, 5000, false, [], none, 0⟩], [], [], [], [], [], [], (none, 0), (some ⟨p15, 0, none⟩, 1), (none, 0), (none, 0), (none, 0), (none, 0), (none, 0), (none, 0)⟩ : Stp) wb pA pA_ok 1 (by decide) x _ _ _ _ _ (hst.resDn [_]) (hx.mono (fun r h => .tail _ h)) (by rw [hl0']; simp) hs1 (.tail _ hpw1)) rfl ?_; clear hst; rintro e w17 ⟨x1, G2, rfl, hstep1, hx1, hG2, hst⟩; replace hst := hst.resUp [_]; refine ⟨_, rfl, ?_⟩; refine Ops.done rfl<|W.seq rfl<|?_; have hl1' : x1.links = [(0, 16)] := (hstep1.links_id rfl rfl).trans hl0'; have hrn2 : Rds [] G2 (.slice none 0 0) 0 [] := hrn1.moreG (fun r h => hG2 r (.tail _ h)); have hs2 : (⟨[], [], [], [], [], [], [], [], (none, 0), (none, 0), (none, 0), (none, 0), (none, 0), (none, 0), (none, 0), (none, 0)⟩ : Stp).Ok G2 := ⟨hrn2, hrn2, hrn2, hrn2, hrn2, hrn2, hrn2, hrn2, by decide, fun r h => by cases h⟩; refine W.region rfl<|hst.y rfl (Y.moveP rfl)<|hst.y rfl (bd40_ rfl)<|Ops.ww rfl (X.call cf9 rfl<|?_); refine use_call (beat_W tbl htl (⟨[], [], [], [], [], [], [], [], (none, 0), (none, 0), (none, 0), (none, 0), (none, 0), (none, 0), (none, 0), (none, 0)⟩ : Stp) wb pA pA_ok 1 (by decide) x1 _ _ _ _ _ (hst.resDn [_]) hx1 (by rw [hl1']; simp) hs2 (hG2 _ (.tail _ hpw1))) rfl ?_; clear hst; rintro e w20 ⟨x2, G3, rfl, hstep2, hx2, hG3, hst⟩; replace hst := hst.resUp [_]; refine ⟨_, rfl, ?_⟩; refine Ops.done rfl<|W.seq rfl<|?_; have hl2' : x2.links = [(0, 16)] := (hstep2.links_id rfl rfl).trans hl1'; obtain ⟨sd1, hbe1⟩ := hstep1.beats pA_ok (by decide) (hx.mono (fun r h => .tail _ h)) rfl rfl (by rw [hl1']; decide) hx1.links; obtain ⟨sd2, hbe2⟩ := hstep2.beats pA_ok (by decide) hx1 rfl rfl (by rw [hl2']; decide) hx2.links; rw [hl1'] at hbe1; rw [hl2'] at hbe2; obtain ⟨u, v, huv, hh0, hh1⟩ := alive_plain rfl hpu none 0 ⟨rfl, rfl, rfl, rfl⟩ ⟨rfl, rfl, rfl, rfl⟩ hbe1 hbe2; have hlen2 := hx2.len
    obtain ⟨m0, m1, hms⟩ : ∃ a b, x2.ms = [a, b] := by
      match hm : x2.ms, hlen2 with
      | [a, b], _ => exact ⟨a, b, rfl⟩
      | [], h => cases h
      | [_], h => cases h
      | _ :: _ :: _ :: _, h => simp [hm] at hlen2; have : pA.N.toNat = 1 := rfl; omega
    have hm0 : x2.ms[0]? = some m0 := by rw [hms]; rfl
    have hm1 : x2.ms[1]? = some m1 := by rw [hms]; rfl
    have hw := hx2.who; unfold puL at huv; rw [hms] at hw huv; have hw0 : m0.u.who = 0 := by injection hw
    have hw1 : m1.u.who = 16 := by injection hw with _ hw; injection hw
    have hu0 : m0.u = u := by injection huv
    have hu1 : m1.u = v := by injection huv with _ huv; injection huv
    rw [← hu0] at hh0; rw [← hu1] at hh1; refine W.region rfl<|hst.y rfl (Y.moveP rfl)<|Ops.ww rfl (X.call cf11 rfl<|?_); refine use_call (front_W 0 wb pA pA_ok 1 (by decide) x2 _ _ _ _ _ (hst.resDn [_]) hx2 0 m0 hm0 hw0) rfl ?_; clear hst; rintro e w_f ⟨rfl, hst⟩; replace hst := hst.resUp [_]; refine ⟨_, rfl, ?_⟩; refine Ops.ww rfl (X.call cf21 rfl ?_); refine use_call (health_W hm0 pA wb _ _ _ _ _ (hst.resDn [_])) rfl ?_; clear hst; rintro e w_h ⟨rfl, hst⟩; replace hst := hst.resUp [_]; refine ⟨_, rfl, ?_⟩; refine hst.yb rfl (Y.eql rfl rfl) (fun b24 hb24 => hst.y rfl (Y.moveB rfl)<|?_); cases b24
    · replace hb24 := dF hb24; exact absurd hh0 hb24
    · replace hb24 := dT hb24; refine hst.y rfl (Y.moveP rfl)<|Ops.ww rfl (X.call cf11 rfl<|?_); refine use_call (front_W 16 wb pA pA_ok 1 (by decide) x2 _ _ _ _ _ (hst.resDn [_]) hx2 1 m1 hm1 hw1) rfl ?_; clear hst; rintro e w_f ⟨rfl, hst⟩; replace hst := hst.resUp [_]; refine ⟨_, rfl, ?_⟩; refine Ops.ww rfl (X.call cf21 rfl ?_); refine use_call (health_W hm1 pA wb _ _ _ _ _ (hst.resDn [_])) rfl ?_; clear hst; rintro e w_h ⟨rfl, hst⟩; replace hst := hst.resUp [_]; refine ⟨_, rfl, ?_⟩; refine hst.yb rfl (Y.eql rfl rfl) (fun b29 hb29 => hst.y rfl (Y.pB rfl rfl)<|hst.y rfl (Y.assignB rfl)<|Ops.done rfl<|W.ret rfl<|⟨_, Rslt.one results6 rfl, ?_⟩)
      first
      | exact absurd hh1 hb29
      | (have e9 : b29 = true := by (rw [hb29]; exact decide_eq_true hh1)
         rw [e9]
         exact ⟨rfl, ((hst.dr 1).sub (res_sub _ _ _ _)).facts (fun r h => hG3 r (hG2 r (.tail _ (hG1 r (.tail _ h)))))⟩)
  · replace hb12 := dT hb12; exact absurd rfl hb12
end Go.Proofs.YtaanjifekgfemaaGreat.Cl
end
section
namespace Go.Proofs.YtaanjifekgfemaaGreat.Cl
open Tryz
open Go.RowKit Go.Proofs.YtaanjifekgfemaaGreat.K Go.Proofs.YtaanjifekgfemaaGreat.W Go.Proofs.YtaanjifekgfemaaGreat.LN
theorem stpC_len (s : Stp) : (stpC s).length = 8 := rfl
structure Stp.In (G : List Res) (s : Stp) : Prop where
  ticks : Rds [] G (.slice s.a0.1 s.ticks.length s.a0.2) s.ticks.length (flat pairC s.ticks)
  reads : Rds [] G (.slice s.a1.1 s.reads.length s.a1.2) s.reads.length (flat rdC s.reads)
  ages : Rds [] G (.slice s.a2.1 s.ages.length s.a2.2) s.ages.length (flat agC s.ages)
  lost : Rds [] G (.slice s.a3.1 s.lost.length s.a3.2) s.lost.length (flat pairC s.lost)
  lies : Rds [] G (.slice s.a4.1 s.lies.length s.a4.2) s.lies.length (flat liC s.lies)
  off : Rds [] G (.slice s.a5.1 s.off.length s.a5.2) s.off.length (ivs s.off)
  cut : Rds [] G (.slice s.a6.1 s.cut.length s.a6.2) s.cut.length (flat pairC s.cut)
  join : Rds [] G (.slice s.a7.1 s.join.length s.a7.2) s.join.length (flat pairC s.join)
  lens : s.ticks.length ≤ 140737488355328 ∧ s.reads.length ≤ 140737488355328 ∧ s.ages.length ≤ 140737488355328 ∧ s.lost.length ≤ 140737488355328 ∧ s.lies.length ≤ 140737488355328 ∧ s.off.length ≤ 140737488355328 ∧ s.cut.length ≤ 140737488355328 ∧ s.join.length ≤ 140737488355328
  tabs : ∀ r ∈ s.reads, r.tab.length ≤ 140737488355328 ∧ (∀ y ∈ r.tab, In64 y.1 ∧ In64 y.2) ∧ Rds [] G (.slice r.A r.tab.length r.cap) r.tab.length (lcs r.tab)
def Stp.parts (s : Stp) : Int := s.ticks.length + s.reads.length + s.ages.length + s.lost.length + s.lies.length + s.off.length + s.cut.length + s.join.length
theorem Stp.In.ok {G : List Res} {s : Stp} (h : s.In G) (hp : s.parts ≤ 200) (ht : ∀ j (hj : j < s.reads.length), (s.reads[j]).tab.length ≤ 1000) : s.Ok G := by
  unfold Stp.parts at hp; refine ⟨h.ticks, h.reads, h.ages, h.lost, h.lies, h.off, h.cut, h.join, by omega, fun r hr => ?_⟩; obtain ⟨h1, h2, h3⟩ := h.tabs r hr; obtain ⟨j, hj, rfl⟩ := List.getElem_of_mem hr; exact ⟨⟨by have := ht j hj; omega, h2⟩, h3⟩
theorem joinW_len (ws : List Int) (l : List (Int × Int)) (y : Int × Int) : (joinW ws l y).length ≤ l.length + 1 := by unfold joinW; split <;> simp
theorem lnk_len (ws : List Int) (n : Nat) (cs : List Int) (ls : List (Int × Int)) : (lnk ws n cs ls).length ≤ n * (n + cs.length) + 2 * ls.length := by
  have hk : ∀ (i n : Nat) (l : List (Int × Int)), (jkW ws i l n).length ≤ l.length + n := by
    intro i n l
    induction n with
    | zero => exact Nat.le_refl _
    | succ n ih =>
      have e : jkW ws i l (n + 1) = joinW ws (jkW ws i l n) ((i : Int), (n : Int)) := by unfold jkW; rw [List.range_succ, List.foldl_append]; rfl
      rw [e]; have := joinW_len ws (jkW ws i l n) ((i : Int), (n : Int)); omega
  have hc : ∀ (i : Nat) (cs : List Int) (l : List (Int × Int)), (jcW ws i l cs).length ≤ l.length + cs.length := by
    intro i cs; unfold jcW
    induction cs with
    | nil => intro l; simp
    | cons c cs ih =>
      intro l; have h1 := ih (if 0 ≤ c ∧ c < 32 then joinW ws l ((i : Int), 16 + c) else l)
      have h2 : (if 0 ≤ c ∧ c < 32 then joinW ws l ((i : Int), 16 + c) else l).length ≤ l.length + 1 := by
        split
        · exact joinW_len _ _ _
        · omega
      simp only [List.foldl_cons, List.length_cons] at h1 ⊢; omega
  have hi : ∀ (m : Nat), (jiW ws n cs m).length ≤ m * (n + cs.length) := by
    intro m
    induction m with
    | zero => simp [jiW]
    | succ m ih =>
      have e : jiW ws n cs (m + 1) = jcW ws m (jkW ws m (jiW ws n cs m) n) cs := by unfold jiW; rw [List.range_succ, List.foldl_append]; rfl
      rw [e, Nat.add_mul]; have h1 := hk m n (jiW ws n cs m); have h2 := hc m cs (jkW ws m (jiW ws n cs m) n); omega
  unfold lnk
  have hl : ∀ (ls l : List (Int × Int)), (ls.foldl (bothE (joinW ws)) l).length ≤ l.length + 2 * ls.length := by
    intro ls
    induction ls with
    | nil => intro l; simp
    | cons y ls ih =>
      intro l; have h1 := ih (bothE (joinW ws) l y); have h2 := bothE_len (joinW_len ws) l y; simp only [List.foldl_cons, List.length_cons] at h1 ⊢; omega
  have := hl ls (jiW ws n cs n); have := hi n; omega
theorem StepW.links_len {p : Par} {stp : Stp} {G G' : List Res} {x x' : Wd} (h : StepW p stp G G' x x') : x'.links.length ≤ x.links.length + 2 * stp.join.length := by
  rw [h.links]; have h1 := joinsF_len (unL x.ms) x.ub (cutsF x.links stp.cut) stp.join; have h2 := cutsF_len x.links stp.cut; omega
theorem perm4 {α : Type} {a b c d f : α} {R L : List α} (h : R.Perm (f :: L)) : (a :: b :: c :: d :: R).Perm (f :: a :: b :: c :: d :: L) := by
  have h1 : (a :: b :: c :: d :: R).Perm (a :: b :: c :: d :: f :: L) := (((h.cons d).cons c).cons b).cons a; exact h1.trans (List.perm_middle (l₁ := [a, b, c, d]))
end Go.Proofs.YtaanjifekgfemaaGreat.Cl
end
section
namespace Go.Proofs.YtaanjifekgfemaaGreat.Cl
open Tryz
open Go.RowKit Go.Proofs.YtaanjifekgfemaaGreat.K Go.Proofs.YtaanjifekgfemaaGreat.W Go.Proofs.YtaanjifekgfemaaGreat.LN
attribute [local irreducible] bound clip adds sub neg mag mulp mul maxs
theorem cf6 : CF 6 := fun _ _ => by simp [go_sem]
theorem cf7 : CF 7 := fun _ _ => by simp [go_sem]
theorem cf8 : CF 8 := fun _ _ => by simp [go_sem]
theorem cf13 : CF 13 := fun _ _ => by simp [go_sem]
theorem eq2_spanT (a b c d : Int) (w : World) : (Op.equalIn 10000 53 (.agg #[.int .i64 a, .int .i64 b]) (.agg #[.int .i64 c, .int .i64 d])).run Tryz.prog w = .ok (decide (a = c ∧ b = d)) w :=
  run_eq2 underlying53 (by kernel_rfl) (by decide) (by decide) rfl rfl underlying3 underlying3 (fun _ => sizeOf3 _) (fun _ => sizeOf3 _) (fun _ => isAgg3 _) (fun _ => isAgg3 _) a b c d w
theorem eqg_spanT : Tryz.prog.eqGuardType Tryz.prog.depth 53 = false := by kernel_rfl
theorem eq2_stampT (a b c d : Int) (w : World) : (Op.equalIn 10000 55 (.agg #[.int .i64 a, .int .i64 b]) (.agg #[.int .i64 c, .int .i64 d])).run Tryz.prog w = .ok (decide (a = c ∧ b = d)) w :=
  run_eq2 underlying55 (by kernel_rfl) (by decide) (by decide) rfl rfl underlying3 underlying3 (fun _ => sizeOf3 _) (fun _ => sizeOf3 _) (fun _ => isAgg3 _) (fun _ => isAgg3 _) a b c d w
theorem eqg_stampT : Tryz.prog.eqGuardType Tryz.prog.depth 55 = false := by kernel_rfl
theorem saneF_any (p : Par) (hp : p.Ok) (s : Stt) (hf : s.Fit p) (A : Option Addr) (cap : Nat) (w0 w : World) (F0 : List Nat) (L G : List Res) (hst : St w0 F0 w L G) (hr : Rds [] G (.slice A s.tab.length cap) s.tab.length (lcs s.tab)) :
    Calls Tryz.prog 12 #[.agg #[.int .i64 p.N, .int .i64 p.F, .int .i64 p.D, .int .i64 p.Beat, .int .i64 p.Rho, .int .i64 p.Delay, .int .i64 p.Jitter, .int .i64 p.Eps, .int .i64 p.Mu, .int .i64 p.Hold, .int .i64 p.Pulse, .int .i64 p.Second], .agg #[.int .i64 s.lo, .int .i64 s.hi, .int .i64 s.time, .bool s.set, .int .i64 s.held, .int .i64 s.hops, .bool s.good, .slice A s.tab.length cap, .int .i64 s.st, .int .i64 s.sn, .int .i64 s.life]] w fun e w' => ∃ A' c', e = .returned (.agg #[.int .i64 s.lo, .int .i64 s.hi, .int .i64 s.time, .bool s.set, .int .i64 s.held, .int .i64 s.hops, .bool s.good, .slice A' s.tab.length c', .int .i64 s.st, .int .i64 s.sn, .int .i64 s.life]) ∧ St w0 F0 w' L (rowR (.slice A' (s.tab).length c') 114 2 (s.tab).length (lcs (s.tab)) :: G) := by
  have h := sane_any p s A cap (goodTab_fit hf.tab).1 (goodTab_fit hf.tab).2 _ _ _ _ _ hst hr; rw [sane_id hp hf] at h; exact h
set_option maxHeartbeats 8000000 in
theorem total_any (tbl : List Int) (htl : tbl.length = 20) (c : Cs) (steps : List Stp) (a9 : Sla) (w0 w : World) (F0 : List Nat) (L G : List Res) (hst : St w0 F0 w L G) (hin : c.In G) (hrn : Rds [] G (.slice none 0 0) 0 []) (hpw : powR tbl ∈ G) (hss : Rds [] G (.slice a9.1 steps.length a9.2) steps.length (flat stpC steps)) (hs63 : steps.length ≤ 140737488355328) (hsi : ∀ s ∈ steps, s.In G) :
    Calls Tryz.prog 3 #[.agg (csC c).toArray, .slice a9.1 steps.length a9.2] w fun e w' => e = .returned (.bool true) ∧ ∃ G', (∀ r ∈ G, r ∈ G') ∧ St w0 F0 w' L G' := by
  refine W.func func3 rfl ntmps3 rfl<|W.sr rfl<|Ops.ww rfl (X.boxA hst rfl fun p2 w2 hst => hst.y rfl (Y.assignB rfl)<|Ops.done rfl<|W.seq rfl<|W.sr rfl<|Ops.ww rfl (X.ret cf6 (alive_any tbl htl _ _ _ _ _ hst hrn hpw) rfl fun w15 hst => hst.y rfl (Y.not rfl)<|Ops.done rfl<|W.condF rfl rfl<|W.skip rfl<|W.seq rfl<|W.sr rfl<|hst.y rfl (Y.loadA 0 isAgg30 sizeOf30 rfl rfl rfl rfl)<|Ops.ww rfl (X.call cf7 rfl<|?_))); refine use_call (great_any c 0 _ _ _ _ _ hst hin) rfl ?_; clear hst; rintro e w18 ⟨b18, rfl, hgr, hst⟩; have hb18 : b18 = decide (b18 = true) := (by cases b18 <;> rfl); refine ⟨_, rfl, ?_⟩; refine hst.y rfl (Y.moveB rfl) ?_; cases b18
  · replace hb18 := dF hb18; refine hst.y rfl (Y.moveS rfl)<|hst.y rfl (Y.lenS underlying31 rfl)<|hst.yb rfl (Y.gtr rfl rfl) (fun b22 hb22 => hst.y rfl (Y.pB rfl rfl)<|Ops.done rfl<|?_); cases b22
    · replace hb22 := dF hb22; refine W.condF rfl rfl<|W.skip rfl<|W.seq rfl<|?_; have hsm := hgr rfl; obtain ⟨nd, hnd⟩ : ∃ nd : Nat, c.nodes = (nd : Int) := ⟨c.nodes.toNat, by have := hsm.nodes; omega⟩; have hok := hsm.ok; have hn6 := hsm.nodes; have hnd2 : nd ≤ 32 := by omega
      have hN7 := hsm.N; have hN1 := hok.N; refine W.region rfl<|hst.y rfl (Y.loadA 0 isAgg30 sizeOf30 rfl rfl rfl rfl)<|Ops.ww rfl (X.call cf8 rfl<|?_); refine use_call (begun_any c 0 hsm nd hnd _ _ _ _ _ hst hin hrn) rfl ?_; clear hst; rintro e w25 ⟨rb, wb, x0, G1, rfl, hx0, hG1, htm, hlk0, hst⟩; replace hst := ((hst.resDn [_]).resUp [_, _]).up_1; refine ⟨_, rfl, ?_⟩; refine hst.y rfl (Y.assignP rfl)<|Ops.done rfl<|W.seq rfl<|W.sr rfl<|hst.y rfl (Y.moveP rfl)<|hst.y rfl (Y.isNil underlying34 rfl rfl)<|Ops.done rfl<|W.condF rfl rfl<|W.skip rfl<|W.seq rfl<|W.seq rfl<|?_; have hll := lnk_len (whosL c.p.N.toNat nd) c.p.N.toNat c.core c.links; have hl1 := hsm.core; have hl2 := hsm.links; have hmm1 : c.p.N.toNat * (c.p.N.toNat + c.core.length) ≤ 7 * (7 + 20) := Nat.mul_le_mul (by omega) (by omega); rw [← hlk0] at hll; refine W.region rfl<|hst.y rfl (Y.moveS rfl)<|hst.y rfl (Y.lenS underlying31 rfl)<|hst.y rfl (Y.moveI rfl)<|Ops.done rfl<|W.block rfl<|?_; refine W.loop (γ := Nat × Wd × List Res) [(2, .pointer _), (5, .pointer _), (28, .slice _ _ _), (29, .int _ _)] (fun x_ => [(30, .int .i64 (x_.1 : Int))]) (fun x_ w => (x_.1 ≤ steps.length ∧ x_.2.1.Ok c.p nd x_.2.2 ∧ (∀ r ∈ G, r ∈ x_.2.2) ∧ x_.2.1.links.length ≤ 1000 + 400 * x_.1) ∧ St w0 F0 w (cellsR p2 (csC c) 30 :: cellsR rb (runC c wb 0 0) 47 :: x_.2.1.res c.p wb L) x_.2.2) (fun x_ => steps.length - x_.1) ((0, x0, G1)) rfl ⟨rfl, rfl, rfl, rfl, trivial⟩ ?_ ?_ ?_
      · exact ⟨rfl, trivial⟩
      · exact ⟨⟨Nat.zero_le _, hx0, hG1, by dsimp only; omega⟩, hst⟩
      · clear hst; rintro ⟨k, x, G1⟩ j w9 ⟨⟨hk, hx, hG1, hlx⟩, hst⟩; dsimp only at hk hx hG1 hlx hst; refine W.sr rfl<|hst.yb rfl (Y.lss rfl rfl) (fun b31 hb31 => Ops.done rfl<|W.seq rfl<|?_); cases b31
        · replace hb31 := dF hb31; refine W.condF rfl rfl<|W.exit rfl<|W.sr rfl<|hst.y rfl (Y.assignB rfl)<|Ops.done rfl<|W.ret rfl<|⟨_, Rslt.one results3 rfl, ?_⟩
          first
          | exact ⟨rfl, G, fun _ h => h, (hst.dr 2)⟩
          | exact ⟨rfl, G1, hG1, (hst.dr 2).sub (res_sub _ _ _ _)⟩
          | exact ⟨rfl, G2, fun r hr => hG2 r (hG1 r hr), (hst.dr 2).sub (res_sub _ _ _ _)⟩
        · replace hb31 := dT hb31; refine W.condT rfl rfl<|W.skip rfl<|W.seq rfl<|W.block rfl<|W.seq rfl<|?_; have hk1 : k < steps.length := by omega
          have hsI := hsi _ (List.getElem_mem hk1); refine W.region rfl<|hst.y rfl (Y.indexAddr underlying31 sizeOf40 rfl rfl (((hss.moreG hG1).hd.sl hst).ne (flat_pos stpC_len (by decide) (by omega))) (by omega))<|?_; refine hst.y rfl (Y.loadSlA isAgg40 sizeOf40 rfl (hss.moreG hG1).hd (flat_atI stpC_len steps k hk1) rfl)<|Ops.ww rfl (X.allocA hst zeroValue40 fun p7 w7 hst => Ops.ww rfl (X.storeS hst 0 sizeOf40 rfl rfl rfl rfl rfl (lZ rfl) rfl rfl fun w10_3 hst => Ops.done rfl<|W.seq rfl<|?_)); obtain ⟨hq0, hq1, hq2, hq3, hq4, hq5, hq6, hq7⟩ := hsI.lens; refine W.region rfl<|hst.y rfl (Y.fieldAddr fa40_0 rfl)<|hst.y rfl (Y.load 0 isAgg36 rfl rfl rfl)<|hst.y rfl (Y.lenS underlying36 rfl)<|hst.y rfl (Y.fieldAddr fa40_1 rfl)<|hst.y rfl (Y.load 0 isAgg37 rfl rfl rfl)<|hst.y rfl (Y.lenS underlying37 rfl)<|hst.y rfl (Y.addI rfl rfl (by omega))<|hst.y rfl (Y.fieldAddr fa40_2 rfl)<|hst.y rfl (Y.load 0 isAgg38 rfl rfl rfl)<|hst.y rfl (Y.lenS underlying38 rfl)<|hst.y rfl (Y.addI rfl rfl (by omega))<|hst.y rfl (Y.fieldAddr fa40_3 rfl)<|hst.y rfl (Y.load 0 isAgg25 rfl rfl rfl)<|hst.y rfl (Y.lenS underlying25 rfl)<|hst.y rfl (Y.addI rfl rfl (by omega))<|hst.y rfl (Y.fieldAddr fa40_4 rfl)<|hst.y rfl (Y.load 0 isAgg27 rfl rfl rfl)<|hst.y rfl (Y.lenS underlying27 rfl)<|hst.y rfl (Y.addI rfl rfl (by omega))<|hst.y rfl (Y.fieldAddr fa40_5 rfl)<|hst.y rfl (Y.load 0 isAgg24 rfl rfl rfl)<|hst.y rfl (Y.lenS underlying24 rfl)<|hst.y rfl (Y.addI rfl rfl (by omega))<|hst.y rfl (Y.fieldAddr fa40_6 rfl)<|hst.y rfl (Y.load 0 isAgg25 rfl rfl rfl)<|hst.y rfl (Y.lenS underlying25 rfl)<|hst.y rfl (Y.addI rfl rfl (by omega))<|hst.y rfl (Y.fieldAddr fa40_7 rfl)<|hst.y rfl (Y.load 0 isAgg25 rfl rfl rfl)<|hst.y rfl (Y.lenS underlying25 rfl)<|hst.y rfl (Y.addI rfl rfl (by omega))<|hst.y rfl (Y.assignI rfl)<|Ops.done rfl<|W.seq rfl<|W.sr rfl<|hst.y rfl (Y.moveI rfl)<|hst.yb rfl (Y.gtr rfl rfl) (fun b66 hb66 => Ops.done rfl<|?_); cases b66
          · replace hb66 := dF hb66; refine W.condF rfl rfl<|W.skip rfl<|W.seq rfl<|W.seq rfl<|?_; have hpa : steps[k].parts ≤ 200 := by unfold Stp.parts; omega
            have hjl : steps[k].join.length ≤ 200 := by unfold Stp.parts at hpa; omega
            refine W.region rfl<|hst.y rfl (Y.fieldAddr fa40_1 rfl)<|hst.y rfl (Y.load 0 isAgg37 rfl rfl rfl)<|hst.y rfl (Y.lenS underlying37 rfl)<|hst.y rfl (Y.moveI rfl)<|Ops.done rfl<|W.block rfl<|?_; refine W.loop (γ := Nat × Int) [(2, .pointer _), (5, .pointer _), (7, .pointer _), (28, .slice _ _ _), (29, .int _ _), (30, .int _ _), (68, .slice _ _ _), (69, .int _ _)] (fun x_ => [(70, .int .i64 (x_.1 : Int)), (8, .int .i64 x_.2)]) (fun x_ w => (x_.1 ≤ steps[k].reads.length ∧ (0 ≤ x_.2 ∧ x_.2 ≤ 1000) ∧ ∀ i (h : i < steps[k].reads.length), i < x_.1 → (steps[k].reads[i]).tab.length ≤ 1000) ∧ St w0 F0 w (cellsR p7 (stpC steps[k]) 40 :: cellsR p2 (csC c) 30 :: cellsR rb (runC c wb 0 0) 47 :: x.res c.p wb L) G1) (fun x_ => steps[k].reads.length - x_.1) ((0, steps[k].parts)) rfl ⟨rfl, rfl, rfl, rfl, rfl, rfl, rfl, rfl, trivial⟩ ?_ ?_ ?_
            · exact ⟨rfl, rfl, trivial⟩
            · exact ⟨⟨Nat.zero_le _, ⟨by unfold Stp.parts; dsimp only; omega, by dsimp only; omega⟩, fun i _ h => absurd h (Nat.not_lt_zero _)⟩, hst⟩
            · clear hst; rintro ⟨j1, n1⟩ j w15 ⟨⟨hj, hn1, ht⟩, hst⟩; dsimp only at hj hn1 ht hst; refine W.sr rfl<|hst.yb rfl (Y.lss rfl rfl) (fun b71 hb71 => Ops.done rfl<|W.seq rfl<|?_); cases b71
              · replace hb71 := dF hb71; refine W.condF rfl rfl<|W.exit rfl<|W.seq rfl<|W.seq rfl<|?_; have hsok : steps[k].Ok G1 := (hsI.ok hpa (fun i hi => ht i hi (by omega))).mono hG1; refine hst.dv [5,6] (T0 [0,1,2,3,4] (T1 [5,6] .nil)) rfl (by kernel_rfl) rfl (by kernel_rfl) fun wd hst => ?_; refine hst.z rfl (Y.moveP rfl)<|hst.z rfl (Y.nilCheck rfl)<|hst.z rfl (Y.fieldAddr fa47_1 rfl)<|hst.z rfl (Y.load 2 isAgg45 rfl rfl rfl)<|hst.z rfl (Y.loadA 0 isAgg40 sizeOf40 rfl rfl rfl rfl)<|Drw.z rfl rfl rfl rfl (X.call cf9 rfl<|?_); refine use_call (beat_W tbl htl steps[k] wb c.p hok nd hnd2 x _ _ _ _ _ (hst.resDn [_, _, _]) hx (by omega) hsok (hG1 _ hpw)) rfl ?_; clear hst; rintro e w87 ⟨x2, G2, rfl, hstep, hx2, hG2, hst⟩; replace hst := hst.resUp [_, _, _]; simp only [List.cons_append, List.nil_append] at hst; refine ⟨_, rfl, ?_⟩; refine Drw.zyb rfl rfl rfl rfl hst.ctx (Y.neq rfl rfl) (fun b88 hb88 => Drw.done<|?_); cases b88
                · replace hb88 := dF hb88; refine W.condF rfl rfl<|W.skip rfl<|W.sr rfl<|hst.y rfl (Y.moveP rfl)<|Ops.ww rfl (X.call cf10 rfl<|?_); refine use_call (units_any rb c wb 0 0 hok nd hnd hnd2 _ _ _ _ _ hst.up_2) rfl ?_; clear hst; rintro e w90 ⟨A90, c90, rfl, hst⟩; replace hst := hst.up_1.dn3; refine ⟨_, rfl, ?_⟩; refine hst.y rfl (Y.lenS underlying24 rfl)<|hst.y rfl (Y.moveI rfl)<|Ops.done rfl<|W.block rfl<|?_; refine W.loop (γ := Nat) [(2, .pointer _), (5, .pointer _), (28, .slice _ _ _), (29, .int _ _), (30, .int _ _), (90, .slice _ _ _), (91, .int _ _)] (fun i => [(92, .int .i64 (i : Int))]) (fun i w => i ≤ c.p.N.toNat + nd ∧ St w0 F0 w (rowR (.slice A90 (c.p.N.toNat + nd) c90) 3 1 (c.p.N.toNat + nd) (ivs (whosL c.p.N.toNat nd)) :: cellsR p7 (stpC steps[k]) 40 :: cellsR p2 (csC c) 30 :: cellsR rb (runC c wb 0 0) 47 :: x2.res c.p wb L) G2) (fun i => c.p.N.toNat + nd - i) (0) rfl ⟨rfl, rfl, rfl, rfl, rfl, rfl, rfl, trivial⟩ ?_ ?_ ?_
                  · exact ⟨rfl, trivial⟩
                  · exact ⟨Nat.zero_le _, hst⟩
                  · clear hst; rintro i j w24 ⟨hi, hst⟩; refine W.sr rfl<|hst.yb rfl (Y.lss rfl rfl) (fun b93 hb93 => Ops.done rfl<|W.seq rfl<|?_); cases b93
                    · replace hb93 := dF hb93; refine W.condF rfl rfl<|W.exit rfl<|W.region rfl<|hst.y rfl (Y.addI rfl rfl (by omega))<|hst.y rfl (Y.moveI rfl)<|Ops.done rfl<|?_; have hl9 := hstep.links_len; exact ⟨(k + 1, x2, G2), ⟨rfl, trivial⟩, ⟨rfl, rfl, rfl, rfl, trivial⟩, ⟨⟨by dsimp only; omega, hx2, fun r hr => hG2 r (hG1 r hr), by dsimp only; omega⟩, (hst.dr 2)⟩, by dsimp only; omega⟩
                    · replace hb93 := dT hb93; refine W.condT rfl rfl<|W.skip rfl<|W.seq rfl<|W.block rfl<|W.seq rfl<|?_; have hil : i < c.p.N.toNat + nd := by omega
                      have hml := hx2.len; obtain ⟨m, hm⟩ : ∃ m, x2.ms[i]? = some m := ⟨_, List.getElem?_eq_getElem (by omega)⟩; have hmm := List.mem_of_getElem? hm
                      have hwi : (whosL c.p.N.toNat nd).getD i 0 = m.u.who := by
                        have h1 := hx2.who; rw [List.getD_eq_getElem?_getD, ← h1]; unfold whosM; rw [List.getElem?_map, hm]; rfl
                      refine W.region rfl<|hst.y rfl (Y.indexAddr underlying24 sizeOf3 rfl rfl ((Rds.sl (Rds.rowL 0 (by rfl)) hst).ne (by unfold ivs; rw [List.length_map, whosL_len]; omega)) (by omega))<|?_; refine hst.y rfl (Y.cast (Y.loadSl isAgg3 rfl (Rds.rowL 0 rfl) (ivs_get (l := whosL c.p.N.toNat nd) (k := i) (by rw [whosL_len]; omega))) (congrArg (Value.int .i64) hwi)) ?_; refine hst.y rfl (Y.assignI rfl)<|Ops.ds rfl rfl<|hst.y rfl (Y.moveP rfl)<|hst.y rfl (Y.nilCheck rfl)<|hst.y rfl (Y.fieldAddr fa47_1 rfl)<|hst.y rfl (Y.load 3 isAgg45 rfl rfl rfl)<|hst.y rfl (Y.moveI rfl)<|Ops.ww rfl (X.call cf11 rfl<|?_); refine use_call (front_W m.u.who wb c.p hok nd hnd2 x2 _ _ _ _ _ (hst.resDn [_, _, _, _]) hx2 i m hm rfl) rfl ?_; clear hst; rintro e w101 ⟨rfl, hst⟩; replace hst := hst.resUp [_, _, _, _]; simp only [List.cons_append, List.nil_append] at hst; refine ⟨_, rfl, ?_⟩; refine hst.y rfl (Y.assignP rfl)<|Ops.done rfl<|W.seq rfl<|W.sr rfl<|hst.y rfl (Y.moveP rfl)<|hst.y rfl (Y.isNil underlying50 rfl rfl)<|Ops.done rfl<|W.condF rfl rfl<|W.skip rfl<|W.seq rfl<|?_; obtain ⟨Tf, rf, L', hpf⟩ := res_front hm c.p wb L; replace hst := hst.perm (perm4 hpf); refine hst.dv [8] (T0 [0,1,2,3,4,5] (.alt 6 (T1 [7,8] .nil) (T1 [7,6,8] .nil))) rfl (by kernel_rfl) rfl (by kernel_rfl) fun wd hst => ?_; refine hst.z rfl (Y.fieldAddr fa30_0 rfl)<|hst.z rfl (Y.loadA 3 isAgg23 sizeOf23 rfl rfl rfl rfl)<|hst.z rfl (Y.moveP rfl)<|hst.z rfl (Y.nilCheck rfl)<|hst.z rfl (Y.fieldAddr fa60_1 rfl)<|hst.z rfl (Y.loadA 0 isAgg57 sizeOf57 rfl rfl rfl rfl)<|?_; refine Drw.alts (Alts.more ?_ (Alts.one ?_))
                      · refine One.ww rfl (X.call cf12 rfl ?_); refine use_call (saneF_any c.p hok m.u.s (hx2.ms m hmm).fit _ _ _ _ _ _ _ hst (hx2.ms m hmm).tab) rfl ?_; clear hst; rintro e w110 ⟨A110, c110, rfl, hst⟩; refine ⟨_, rfl, ⟨(hst.cxg 0 1), ?_⟩⟩; refine Drw.ww rfl (X.allocA hst zeroValue57 fun p14 w14 hst => ⟨(hst.cxg 1 1), Drw.z rfl rfl rfl rfl (X.storeS hst 0 sizeOf57 rfl rfl rfl rfl rfl (lZ rfl) rfl rfl fun w29_8 hst => Drw.done<|W.seq rfl<|W.drawn rfl (by kernel_rfl) (Ctx _ _ (_) (_)) [] (.op 0 0 (.op 1 0 (.op 2 0 (.op 3 0 (.op 4 0 (.op 5 0 (.op 6 0 (.op 7 0 (.op 8 0 (.op 9 0 (.op 10 0 (.op 11 0 (.op 12 0 (.op 13 0 (.op 14 0 (.op 15 0 (.op 16 0 (.op 17 0 (.op 18 0 (.op 19 0 (.op 20 0 (.op 21 0 (.op 22 0 (.op 23 0 (.op 24 0 (.op 25 0 (.op 26 0 (.op 27 0 (.op 28 0 (.op 29 0 (.op 30 0 (.op 31 0 (.op 32 0 (.op 33 0 (.op 34 0 (.op 35 0 (.op 36 0 (.op 37 0 (.op 38 0 (.op 39 0 (.op 40 0 (.op 41 0 (.op 42 0 (.op 43 0 (.op 44 0 (.op 45 0 (.op 46 0 (.op 47 0 (.op 48 0 (.op 49 0 (.op 50 0 (.op 51 0 (.op 52 0 (.op 53 0 (.op 54 0 (.op 55 0 (.op 56 0 (.op 57 0 (.op 58 0 (.op 59 0 (.op 60 0 (.op 61 0 (.op 62 0 (.op 63 0 (.op 64 0 (.op 65 0 (.op 66 0 (.op 67 0 (.op 68 0 (.op 69 0 (.op 70 0 (.op 71 0 (.op 72 0 (.op 73 0 (.op 74 0 (.op 75 0 (.op 76 1 (.op 77 0 (.op 78 0 .nil))))))))))))))))))))))))))))))))))))))))))))))))))))))))))))))))))))))))))))))) rfl (by kernel_rfl) hst.drew.ctx<|?_)⟩); replace hst := hst.drew; generalize World.drew _ = wd at hst ⊢; refine hst.z rfl (Y.fieldAddr fa57_0 rfl)<|hst.z rfl (Y.loadA 0 isAgg53 sizeOf53 rfl rfl rfl rfl)<|hst.z rfl (Y.moveP rfl)<|hst.z rfl (Y.nilCheck rfl)<|hst.z rfl (Y.fieldAddr fa60_1 rfl)<|hst.z rfl (Y.fieldAddr fa57_0 rfl)<|hst.z rfl (Y.loadA 1 isAgg53 sizeOf53 rfl rfl rfl rfl)<|Drw.yb rfl rfl rfl hst.ctx (Y.ne2 eqg_spanT eq2_spanT rfl rfl) (fun b118 hb118 => hst.z rfl (Y.moveB rfl)<|?_); cases b118
                        · replace hb118 := dF hb118; refine hst.z rfl (Y.fieldAddr fa57_1 rfl)<|hst.z rfl (Y.load 0 isAgg3 rfl rfl rfl)<|hst.z rfl (Y.moveP rfl)<|hst.z rfl (Y.nilCheck rfl)<|hst.z rfl (Y.fieldAddr fa60_1 rfl)<|hst.z rfl (Y.fieldAddr fa57_1 rfl)<|hst.z rfl (Y.load 1 isAgg3 rfl rfl rfl)<|Drw.yb rfl rfl rfl hst.ctx (Y.neq rfl rfl) (fun b127 hb127 => hst.z rfl (Y.pB rfl rfl)<|hst.z rfl (Y.moveB rfl)<|?_); cases b127
                          · replace hb127 := dF hb127; refine hst.z rfl (Y.fieldAddr fa57_3 rfl)<|hst.z rfl (Y.load 0 isAgg3 rfl rfl rfl)<|hst.z rfl (Y.moveP rfl)<|hst.z rfl (Y.nilCheck rfl)<|hst.z rfl (Y.fieldAddr fa60_1 rfl)<|hst.z rfl (Y.fieldAddr fa57_3 rfl)<|hst.z rfl (Y.load 1 isAgg3 rfl rfl rfl)<|Drw.yb rfl rfl rfl hst.ctx (Y.neq rfl rfl) (fun b137 hb137 => hst.z rfl (Y.pB rfl rfl)<|hst.z rfl (Y.moveB rfl)<|?_); cases b137
                            · replace hb137 := dF hb137; refine hst.z rfl (Y.fieldAddr fa57_4 rfl)<|hst.z rfl (Y.load 0 isAgg3 rfl rfl rfl)<|hst.z rfl (Y.moveP rfl)<|hst.z rfl (Y.nilCheck rfl)<|hst.z rfl (Y.fieldAddr fa60_1 rfl)<|hst.z rfl (Y.fieldAddr fa57_4 rfl)<|hst.z rfl (Y.load 1 isAgg3 rfl rfl rfl)<|Drw.yb rfl rfl rfl hst.ctx (Y.neq rfl rfl) (fun b147 hb147 => hst.z rfl (Y.pB rfl rfl)<|hst.z rfl (Y.moveB rfl)<|?_); cases b147
                              · replace hb147 := dF hb147; refine hst.z rfl (Y.fieldAddr fa57_5 rfl)<|hst.z rfl (Y.load 0 isAgg4 rfl rfl rfl)<|hst.z rfl (Y.moveP rfl)<|hst.z rfl (Y.nilCheck rfl)<|hst.z rfl (Y.fieldAddr fa60_1 rfl)<|hst.z rfl (Y.fieldAddr fa57_5 rfl)<|hst.z rfl (Y.load 1 isAgg4 rfl rfl rfl)<|Drw.yb rfl rfl rfl hst.ctx (Y.neB underlying4 rfl rfl) (fun b157 hb157 => hst.z rfl (Y.pB rfl rfl)<|hst.z rfl (Y.moveB rfl)<|?_); cases b157
                                · replace hb157 := dF hb157; refine hst.z rfl (Y.fieldAddr fa57_8 rfl)<|hst.z rfl (Y.load 0 isAgg3 rfl rfl rfl)<|hst.z rfl (Y.moveP rfl)<|hst.z rfl (Y.nilCheck rfl)<|hst.z rfl (Y.fieldAddr fa60_1 rfl)<|hst.z rfl (Y.fieldAddr fa57_8 rfl)<|hst.z rfl (Y.load 1 isAgg3 rfl rfl rfl)<|Drw.yb rfl rfl rfl hst.ctx (Y.neq rfl rfl) (fun b167 hb167 => hst.z rfl (Y.pB rfl rfl)<|hst.z rfl (Y.moveB rfl)<|?_); cases b167
                                  · replace hb167 := dF hb167; refine hst.z rfl (Y.fieldAddr fa57_7 rfl)<|hst.z rfl (Y.loadA 0 isAgg55 sizeOf55 rfl rfl rfl rfl)<|hst.z rfl (Y.moveP rfl)<|hst.z rfl (Y.nilCheck rfl)<|hst.z rfl (Y.fieldAddr fa60_1 rfl)<|hst.z rfl (Y.fieldAddr fa57_7 rfl)<|hst.z rfl (Y.loadA 1 isAgg55 sizeOf55 rfl rfl rfl rfl)<|Drw.yb rfl rfl rfl hst.ctx (Y.ne2 eqg_stampT eq2_stampT rfl rfl) (fun b177 hb177 => hst.z rfl (Y.pB rfl rfl)<|hst.z rfl (Y.moveB rfl)<|?_); cases b177
                                    · replace hb177 := dF hb177; refine hst.z rfl (Y.fieldAddr fa57_6 rfl)<|hst.z rfl (Y.load 0 isAgg41 rfl rfl rfl)<|hst.z rfl (Y.moveP rfl)<|hst.z rfl (Y.nilCheck rfl)<|hst.z rfl (Y.fieldAddr fa60_1 rfl)<|hst.z rfl (Y.fieldAddr fa57_6 rfl)<|hst.z rfl (Y.load 1 isAgg41 rfl rfl rfl)<|Drw.ww rfl (X.retB cf13 (tables_any m.u.s.tab m.u.s.tab (by have := goodTab_fit (hx2.ms m hmm).fit.tab; have := this.1; omega) A110 m.A c110 m.cap _ _ _ _ _ hst (Rds.rowG 0 rfl) ((hx2.ms m hmm).tab.moreG (fun r h => .tail _ h)).hd) rfl fun b187 w187 hb187 hst => ⟨hst.ctx, ?_⟩); cases b187
                                      · replace hb187 := dF hb187; exact absurd rfl hb187
                                      · replace hb187 := dT hb187; refine hst.z rfl (Y.not rfl)<|hst.z rfl (Y.pB rfl rfl)<|Drw.done<|W.condF rfl rfl<|W.skip rfl<|W.region rfl<|hst.y rfl (Y.addI rfl rfl (by omega))<|hst.y rfl (Y.moveI rfl)<|Ops.done rfl<|?_; have hst2 := (hst.dr 1).perm (perm4 hpf).symm; exact ⟨i + 1, ⟨rfl, trivial⟩, ⟨rfl, rfl, rfl, rfl, rfl, rfl, rfl, trivial⟩, ⟨by omega, hst2.forget⟩, by omega⟩
                                    · replace hb177 := dT hb177; exact absurd ⟨rfl, rfl⟩ hb177
                                  · replace hb167 := dT hb167; exact absurd rfl hb167
                                · replace hb157 := dT hb157; exact absurd rfl hb157
                              · replace hb147 := dT hb147; exact absurd rfl hb147
                            · replace hb137 := dT hb137; exact absurd rfl hb137
                          · replace hb127 := dT hb127; exact absurd rfl hb127
                        · replace hb118 := dT hb118; exact absurd ⟨rfl, rfl⟩ hb118
                      · refine One.ww rfl (X.allocA hst zeroValue57 fun p14 w14 hst => ⟨(hst.cx 1), Drw.ww rfl (X.call cf12 rfl<|?_)⟩); refine use_call (saneF_any c.p hok m.u.s (hx2.ms m hmm).fit _ _ _ _ _ _ _ hst (hx2.ms m hmm).tab) rfl ?_; clear hst; rintro e w110 ⟨A110, c110, rfl, hst⟩; refine ⟨_, rfl, ⟨(hst.cxg 1 1), ?_⟩⟩; refine Drw.z rfl rfl rfl rfl (X.storeS hst 0 sizeOf57 rfl rfl rfl rfl rfl (lZ rfl) rfl rfl fun w29_8 hst => Drw.done<|W.seq rfl<|W.drawn rfl (by kernel_rfl) (Ctx _ _ (_) (_)) [] (.op 0 0 (.op 1 0 (.op 2 0 (.op 3 0 (.op 4 0 (.op 5 0 (.op 6 0 (.op 7 0 (.op 8 0 (.op 9 0 (.op 10 0 (.op 11 0 (.op 12 0 (.op 13 0 (.op 14 0 (.op 15 0 (.op 16 0 (.op 17 0 (.op 18 0 (.op 19 0 (.op 20 0 (.op 21 0 (.op 22 0 (.op 23 0 (.op 24 0 (.op 25 0 (.op 26 0 (.op 27 0 (.op 28 0 (.op 29 0 (.op 30 0 (.op 31 0 (.op 32 0 (.op 33 0 (.op 34 0 (.op 35 0 (.op 36 0 (.op 37 0 (.op 38 0 (.op 39 0 (.op 40 0 (.op 41 0 (.op 42 0 (.op 43 0 (.op 44 0 (.op 45 0 (.op 46 0 (.op 47 0 (.op 48 0 (.op 49 0 (.op 50 0 (.op 51 0 (.op 52 0 (.op 53 0 (.op 54 0 (.op 55 0 (.op 56 0 (.op 57 0 (.op 58 0 (.op 59 0 (.op 60 0 (.op 61 0 (.op 62 0 (.op 63 0 (.op 64 0 (.op 65 0 (.op 66 0 (.op 67 0 (.op 68 0 (.op 69 0 (.op 70 0 (.op 71 0 (.op 72 0 (.op 73 0 (.op 74 0 (.op 75 0 (.op 76 1 (.op 77 0 (.op 78 0 .nil))))))))))))))))))))))))))))))))))))))))))))))))))))))))))))))))))))))))))))))) rfl (by kernel_rfl) hst.drew.ctx<|?_); replace hst := hst.drew; generalize World.drew _ = wd at hst ⊢; refine hst.z rfl (Y.fieldAddr fa57_0 rfl)<|hst.z rfl (Y.loadA 0 isAgg53 sizeOf53 rfl rfl rfl rfl)<|hst.z rfl (Y.moveP rfl)<|hst.z rfl (Y.nilCheck rfl)<|hst.z rfl (Y.fieldAddr fa60_1 rfl)<|hst.z rfl (Y.fieldAddr fa57_0 rfl)<|hst.z rfl (Y.loadA 1 isAgg53 sizeOf53 rfl rfl rfl rfl)<|Drw.yb rfl rfl rfl hst.ctx (Y.ne2 eqg_spanT eq2_spanT rfl rfl) (fun b118 hb118 => hst.z rfl (Y.moveB rfl)<|?_); cases b118
                        · replace hb118 := dF hb118; refine hst.z rfl (Y.fieldAddr fa57_1 rfl)<|hst.z rfl (Y.load 0 isAgg3 rfl rfl rfl)<|hst.z rfl (Y.moveP rfl)<|hst.z rfl (Y.nilCheck rfl)<|hst.z rfl (Y.fieldAddr fa60_1 rfl)<|hst.z rfl (Y.fieldAddr fa57_1 rfl)<|hst.z rfl (Y.load 1 isAgg3 rfl rfl rfl)<|Drw.yb rfl rfl rfl hst.ctx (Y.neq rfl rfl) (fun b127 hb127 => hst.z rfl (Y.pB rfl rfl)<|hst.z rfl (Y.moveB rfl)<|?_); cases b127
                          · replace hb127 := dF hb127; refine hst.z rfl (Y.fieldAddr fa57_3 rfl)<|hst.z rfl (Y.load 0 isAgg3 rfl rfl rfl)<|hst.z rfl (Y.moveP rfl)<|hst.z rfl (Y.nilCheck rfl)<|hst.z rfl (Y.fieldAddr fa60_1 rfl)<|hst.z rfl (Y.fieldAddr fa57_3 rfl)<|hst.z rfl (Y.load 1 isAgg3 rfl rfl rfl)<|Drw.yb rfl rfl rfl hst.ctx (Y.neq rfl rfl) (fun b137 hb137 => hst.z rfl (Y.pB rfl rfl)<|hst.z rfl (Y.moveB rfl)<|?_); cases b137
                            · replace hb137 := dF hb137; refine hst.z rfl (Y.fieldAddr fa57_4 rfl)<|hst.z rfl (Y.load 0 isAgg3 rfl rfl rfl)<|hst.z rfl (Y.moveP rfl)<|hst.z rfl (Y.nilCheck rfl)<|hst.z rfl (Y.fieldAddr fa60_1 rfl)<|hst.z rfl (Y.fieldAddr fa57_4 rfl)<|hst.z rfl (Y.load 1 isAgg3 rfl rfl rfl)<|Drw.yb rfl rfl rfl hst.ctx (Y.neq rfl rfl) (fun b147 hb147 => hst.z rfl (Y.pB rfl rfl)<|hst.z rfl (Y.moveB rfl)<|?_); cases b147
                              · replace hb147 := dF hb147; refine hst.z rfl (Y.fieldAddr fa57_5 rfl)<|hst.z rfl (Y.load 0 isAgg4 rfl rfl rfl)<|hst.z rfl (Y.moveP rfl)<|hst.z rfl (Y.nilCheck rfl)<|hst.z rfl (Y.fieldAddr fa60_1 rfl)<|hst.z rfl (Y.fieldAddr fa57_5 rfl)<|hst.z rfl (Y.load 1 isAgg4 rfl rfl rfl)<|Drw.yb rfl rfl rfl hst.ctx (Y.neB underlying4 rfl rfl) (fun b157 hb157 => hst.z rfl (Y.pB rfl rfl)<|hst.z rfl (Y.moveB rfl)<|?_); cases b157
                                · replace hb157 := dF hb157; refine hst.z rfl (Y.fieldAddr fa57_8 rfl)<|hst.z rfl (Y.load 0 isAgg3 rfl rfl rfl)<|hst.z rfl (Y.moveP rfl)<|hst.z rfl (Y.nilCheck rfl)<|hst.z rfl (Y.fieldAddr fa60_1 rfl)<|hst.z rfl (Y.fieldAddr fa57_8 rfl)<|hst.z rfl (Y.load 1 isAgg3 rfl rfl rfl)<|Drw.yb rfl rfl rfl hst.ctx (Y.neq rfl rfl) (fun b167 hb167 => hst.z rfl (Y.pB rfl rfl)<|hst.z rfl (Y.moveB rfl)<|?_); cases b167
                                  · replace hb167 := dF hb167; refine hst.z rfl (Y.fieldAddr fa57_7 rfl)<|hst.z rfl (Y.loadA 0 isAgg55 sizeOf55 rfl rfl rfl rfl)<|hst.z rfl (Y.moveP rfl)<|hst.z rfl (Y.nilCheck rfl)<|hst.z rfl (Y.fieldAddr fa60_1 rfl)<|hst.z rfl (Y.fieldAddr fa57_7 rfl)<|hst.z rfl (Y.loadA 1 isAgg55 sizeOf55 rfl rfl rfl rfl)<|Drw.yb rfl rfl rfl hst.ctx (Y.ne2 eqg_stampT eq2_stampT rfl rfl) (fun b177 hb177 => hst.z rfl (Y.pB rfl rfl)<|hst.z rfl (Y.moveB rfl)<|?_); cases b177
                                    · replace hb177 := dF hb177; refine hst.z rfl (Y.fieldAddr fa57_6 rfl)<|hst.z rfl (Y.load 0 isAgg41 rfl rfl rfl)<|hst.z rfl (Y.moveP rfl)<|hst.z rfl (Y.nilCheck rfl)<|hst.z rfl (Y.fieldAddr fa60_1 rfl)<|hst.z rfl (Y.fieldAddr fa57_6 rfl)<|hst.z rfl (Y.load 1 isAgg41 rfl rfl rfl)<|Drw.ww rfl (X.retB cf13 (tables_any m.u.s.tab m.u.s.tab (by have := goodTab_fit (hx2.ms m hmm).fit.tab; have := this.1; omega) A110 m.A c110 m.cap _ _ _ _ _ hst (Rds.rowG 0 rfl) ((hx2.ms m hmm).tab.moreG (fun r h => .tail _ h)).hd) rfl fun b187 w187 hb187 hst => ⟨hst.ctx, ?_⟩); cases b187
                                      · replace hb187 := dF hb187; exact absurd rfl hb187
                                      · replace hb187 := dT hb187; refine hst.z rfl (Y.not rfl)<|hst.z rfl (Y.pB rfl rfl)<|Drw.done<|W.condF rfl rfl<|W.skip rfl<|W.region rfl<|hst.y rfl (Y.addI rfl rfl (by omega))<|hst.y rfl (Y.moveI rfl)<|Ops.done rfl<|?_; have hst2 := (hst.dr 1).perm (perm4 hpf).symm; exact ⟨i + 1, ⟨rfl, trivial⟩, ⟨rfl, rfl, rfl, rfl, rfl, rfl, rfl, trivial⟩, ⟨by omega, hst2.forget⟩, by omega⟩
                                    · replace hb177 := dT hb177; exact absurd ⟨rfl, rfl⟩ hb177
                                  · replace hb167 := dT hb167; exact absurd rfl hb167
                                · replace hb157 := dT hb157; exact absurd rfl hb157
                              · replace hb147 := dT hb147; exact absurd rfl hb147
                            · replace hb137 := dT hb137; exact absurd rfl hb137
                          · replace hb127 := dT hb127; exact absurd rfl hb127
                        · replace hb118 := dT hb118; exact absurd ⟨rfl, rfl⟩ hb118
                · replace hb88 := dT hb88; exact absurd rfl hb88
              · replace hb71 := dT hb71; refine W.condT rfl rfl<|W.skip rfl<|W.seq rfl<|W.block rfl<|W.seq rfl<|?_; have hj1 : j1 < steps[k].reads.length := by omega
                have htl1 := (hsI.tabs _ (List.getElem_mem hj1)).1; refine W.region rfl<|hst.y rfl (Y.indexAddr underlying37 sizeOf43 rfl rfl (((hsI.reads.moreG hG1).hd.sl hst).ne (flat_pos rdC_len (by decide) (by omega))) (by omega))<|?_; refine hst.y rfl (Y.loadSlA isAgg43 sizeOf43 rfl (hsI.reads.moreG hG1).hd (flat_atI rdC_len steps[k].reads j1 hj1) rfl)<|Ops.ww rfl (X.allocA hst zeroValue43 fun p10 w10 hst => Ops.ww rfl (X.storeS hst 0 sizeOf43 rfl rfl rfl rfl rfl (lZ rfl) rfl rfl fun w16_3 hst => Ops.ds rfl rfl<|hst.y rfl (Y.moveI rfl)<|hst.y rfl (Y.fieldAddr fa43_4 rfl)<|hst.y rfl (Y.load 0 isAgg41 rfl rfl rfl)<|hst.y rfl (Y.lenS underlying41 rfl)<|hst.y rfl (Y.addI rfl rfl (by omega))<|hst.y rfl (Y.assignI rfl)<|Ops.ds rfl rfl<|hst.y rfl (Y.moveI rfl)<|hst.yb rfl (Y.gtr rfl rfl) (fun b80 hb80 => Ops.done rfl<|?_))); cases b80
                · replace hb80 := dF hb80; refine W.condF rfl rfl<|W.skip rfl<|W.region rfl<|hst.y rfl (Y.addI rfl rfl (by omega))<|hst.y rfl (Y.moveI rfl)<|Ops.done rfl<|?_; have hb80' := hb80; dsimp only at hb80'
                  exact ⟨(j1 + 1, n1 + (steps[k].reads[j1]).tab.length), ⟨rfl, rfl, trivial⟩, ⟨rfl, rfl, rfl, rfl, rfl, rfl, rfl, rfl, trivial⟩, ⟨⟨by dsimp only; omega, by dsimp only; omega, fun i hi h => by
                    dsimp only at h; rcases (show i < j1 ∨ i = j1 by omega) with h | rfl
                    · exact ht i hi h
                    · omega⟩, (hst.dr 1)⟩, by dsimp only; omega⟩
                · replace hb80 := dT hb80; refine W.condT rfl rfl<|W.sr rfl<|hst.y rfl (Y.assignB rfl)<|Ops.done rfl<|W.ret rfl<|⟨_, Rslt.one results3 rfl, ?_⟩
                  first
                  | exact ⟨rfl, G, fun _ h => h, (hst.dr 4)⟩
                  | exact ⟨rfl, G1, hG1, (hst.dr 4).sub (res_sub _ _ _ _)⟩
                  | exact ⟨rfl, G2, fun r hr => hG2 r (hG1 r hr), (hst.dr 4).sub (res_sub _ _ _ _)⟩
          · replace hb66 := dT hb66; refine W.condT rfl rfl<|W.sr rfl<|hst.y rfl (Y.assignB rfl)<|Ops.done rfl<|W.ret rfl<|⟨_, Rslt.one results3 rfl, ?_⟩
            first
            | exact ⟨rfl, G, fun _ h => h, (hst.dr 3)⟩
            | exact ⟨rfl, G1, hG1, (hst.dr 3).sub (res_sub _ _ _ _)⟩
            | exact ⟨rfl, G2, fun r hr => hG2 r (hG1 r hr), (hst.dr 3).sub (res_sub _ _ _ _)⟩
    · replace hb22 := dT hb22; refine W.condT rfl rfl<|W.sr rfl<|hst.y rfl (Y.assignB rfl)<|Ops.done rfl<|W.ret rfl<|⟨_, Rslt.one results3 rfl, ?_⟩
      first
      | exact ⟨rfl, G, fun _ h => h, (hst.dr 1)⟩
      | exact ⟨rfl, G1, hG1, (hst.dr 1).sub (res_sub _ _ _ _)⟩
      | exact ⟨rfl, G2, fun r hr => hG2 r (hG1 r hr), (hst.dr 1).sub (res_sub _ _ _ _)⟩
  · replace hb18 := dT hb18; refine Ops.nn rfl<|Ops.nn rfl<|Ops.nn rfl<|hst.y rfl (Y.pB rfl rfl)<|Ops.done rfl<|W.condT rfl rfl<|W.sr rfl<|hst.y rfl (Y.assignB rfl)<|Ops.done rfl<|W.ret rfl<|⟨_, Rslt.one results3 rfl, ?_⟩
    first
    | exact ⟨rfl, G, fun _ h => h, (hst.dr 1)⟩
    | exact ⟨rfl, G1, hG1, (hst.dr 1).sub (res_sub _ _ _ _)⟩
    | exact ⟨rfl, G2, fun r hr => hG2 r (hG1 r hr), (hst.dr 1).sub (res_sub _ _ _ _)⟩
end Go.Proofs.YtaanjifekgfemaaGreat.Cl
end
section
namespace Go.Proofs.YtaanjifekgfemaaGreat.Op
open Tryz
open Go.RowKit Go.Proofs.YtaanjifekgfemaaGreat.K Go.Proofs.YtaanjifekgfemaaGreat.W Go.Proofs.YtaanjifekgfemaaGreat.Cl
open Go.ChangeShapes Go.WideShapes Go.Deep
theorem wf64 {n : Int} (h : (Lit.int .i64 n).wf = true) : In64 n := by
  simp only [Lit.wf, IntKind.min, IntKind.max, IntKind.signed, IntKind.bits, Bool.and_eq_true, decide_eq_true_eq] at h; unfold In64; simp at h; omega
theorem weightsAll_mem {H : Type} {P : Program} {e : TypeId} : ∀ {l : List (DataW H)} {d : DataW H}, d ∈ l → ∀ n ∈ d.weights P e, n ∈ DataW.weightsAll P e l := by
  intro l
  induction l with
  | nil => intro d h; cases h
  | cons x l ih =>
    intro d h n hn; simp only [DataW.weightsAll, List.mem_append]; rcases List.mem_cons.1 h with rfl | h
    · exact .inl hn
    · exact .inr (ih h n hn)
def Fine {H : Type} (t : TypeId) (d : DataW H) : Prop := ∀ y ∈ d.weights Tryz.prog t, y ≤ reachBytes
def Opn {H : Type} (enc : TypeId × Value → H) (w : World) (base : Nat) (held : Bool) (t : TypeId) {α : Type} (c : α → List Value) (Q : α → Prop) : Prop :=
  ∀ (fuel : Nat) (cs : List Value) (x : DataW H × List MemPlace), DataW.trod enc Tryz.prog w base (fun _ => true) held fuel t cs = some x → Fine t x.1 → ∃ a, cs = c a ∧ Q a
section
variable {H : Type} {enc : TypeId × Value → H} {w : World} {base : Nat} {held : Bool}
theorem opn_int : Opn enc w base held 3 (fun n : Int => [Value.int .i64 n]) In64 := by
  intro fuel cs x h _; obtain ⟨n, h1, _, h2⟩ := DataW.trod_int underlying3 h; exact ⟨n, h1, wf64 h2⟩
theorem opn_bool : Opn enc w base held 4 (fun b : Bool => [Value.bool b]) (fun _ => True) := by
  intro fuel cs x h _; obtain ⟨b, h1, _⟩ := DataW.trod_bool underlying4 h; exact ⟨b, h1, trivial⟩
theorem opn_string : Opn enc w base held 9 (fun s : ByteArray => [Value.string s]) (fun s => s.size ≤ 140737488355328) := by
  intro fuel cs x h hf; obtain ⟨s, h1, h2, _⟩ := DataW.trod_string underlying9 h; refine ⟨s, h1, ?_⟩; have h3 := hf s.data.toList.length (by rw [h2]; simp [DataW.weights]); rw [toList_len] at h3; have := reachBytes_lt; omega
theorem opn_field {t : TypeId} {fs : Array Field} (ht : Tryz.prog.underlying t = some (.struct fs)) {fuel : Nat} {cs : List Value} {x : DataW H × List MemPlace} (h : DataW.trod enc Tryz.prog w base (fun _ => true) held fuel t cs = some x) (hF : Fine t x.1) (j : Nat) {f : Field} (hj : fs[j]? = some f)
    {α : Type} {c : α → List Value} {Q : α → Prop} (ho : Opn enc w base held f.type c Q) {k : Nat} (hk : Tryz.prog.cellsOf f.type = k) : ∃ a, (cs.drop f.offset).take k = c a ∧ Q a := by
  obtain ⟨xs, n, _, hx, _, hl, hg⟩ := DataW.trod_struct ht h; have hjl : j < xs.length := by rw [hl]; exact (Array.getElem?_eq_some_iff.1 hj).1
  have g := hg j f hj; rw [List.getElem?_eq_getElem hjl, hk] at g; refine ho n _ _ g ?_; intro y hy; refine hF y ?_; rw [hx]; simp only [DataW.weights, ht]; refine DataW.weights_mem_each (j := j) (t := f.type) (d := xs[j].1) ?_ ?_ y hy
  · rw [List.getElem?_map, Array.getElem?_toList, hj]; rfl
  · rw [List.getElem?_map, List.getElem?_eq_getElem hjl]; rfl
theorem struct_len {t : TypeId} {fs : Array Field} (ht : Tryz.prog.underlying t = some (.struct fs)) {fuel : Nat} {cs : List Value} {x : DataW H × List MemPlace} (h : DataW.trod enc Tryz.prog w base (fun _ => true) held fuel t cs = some x) {k : Nat} (hk : Tryz.prog.cellsOf t = k) : cs.length = k := by
  obtain ⟨xs, n, _, hx, hc, _⟩ := DataW.trod_struct ht h; rw [hc, hk]
theorem cut_step (cs : List Value) (o s : Nat) : cs.drop o = (cs.drop o).take s ++ cs.drop (o + s) := by
  rw [← List.drop_drop, List.take_append_drop]
theorem cut_join {cs a b : List Value} (o s : Nat) (e1 : (cs.drop o).take s = a) (e2 : cs.drop (o + s) = b) : cs.drop o = a ++ b := by
  rw [cut_step cs o s, e1, e2]
structure SlOf (α : Type) where
  l : List α
  A : Option Addr
  cap : Nat
def slC {α : Type} (s : SlOf α) : List Value := [.slice s.A s.l.length s.cap]
def slOk {α : Type} (w : World) (c : α → List Value) (Q : α → Prop) (s : SlOf α) : Prop := Sl w (.slice s.A s.l.length s.cap) s.l.length (flat c s.l) ∧ s.l.length ≤ 140737488355328 ∧ ∀ a ∈ s.l, Q a
theorem opn_slice {t e : TypeId} (ht : Tryz.prog.underlying t = some (.slice e)) {α : Type} {c : α → List Value} {Q : α → Prop} (ho : Opn enc w base held e c Q) {m : Nat} (hm : Tryz.prog.cellsOf e = m) (hc : ∀ a, (c a).length = m) (hm0 : 0 < m) (hb : 1 ≤ Tryz.prog.bytesOf e) (a0 : α) :
    Opn enc w base held t slC (slOk w c Q) := by
  intro fuel cs x h hF; rcases open_slice ht h with ⟨h1, _⟩ | ⟨a, len, cap, mm, n, D, Pl, h1, _, hl, hmx, hmm, hx, hi⟩
  · subst h1; refine ⟨⟨[], none, 0⟩, rfl, Sl.nil w, by simp, fun a h => by cases h⟩
  · subst h1; rw [if_pos rfl] at hmm; subst hmm
    have hlen : len ≤ 140737488355328 := by
      have h2 := hF ((((List.range len).map D).length + ((List.range (mm - len)).map fun j => D (len + j)).length) * Tryz.prog.bytesOf e) (by rw [hx]; simp only [DataW.weights, ht]; exact .head _); rw [List.length_map, List.length_range, List.length_map, List.length_range] at h2; have h3 : len * 1 ≤ (len + (mm - len)) * Tryz.prog.bytesOf e := Nat.mul_le_mul (by omega) hb; have := reachBytes_lt; omega
    have HH : ∀ i, i < len → ∃ y : α, Q y ∧ ∀ j, j < m → w.cell? (a.add (i * m + j)) = (c y)[j]? := by
      intro i hlt; obtain ⟨cs, hcs, ht2⟩ := hi i (by omega); rw [hm] at hcs; obtain ⟨_, hcl, hat⟩ := World.cells?_some hcs
      obtain ⟨y, hy, hq⟩ := ho n cs _ ht2 (by
        intro z hz; refine hF z ?_; rw [hx]; simp only [DataW.weights, ht]; refine .tail _ (List.mem_append.2 (.inl (weightsAll_mem ?_ z hz)))
        exact List.mem_map.2 ⟨i, List.mem_range.2 hlt, rfl⟩)
      refine ⟨y, hq, fun j hj => ?_⟩; have := hat j (by omega); rw [K.add_add] at this; rw [this, hy]
    let f : Nat → α := fun i => if h : i < len then Classical.choose (HH i h) else a0
    have hf : ∀ i, i < len → Q (f i) ∧ ∀ j, j < m → w.cell? (a.add (i * m + j)) = (c (f i))[j]? := by
      intro i hlt; have := Classical.choose_spec (HH i hlt); simp only [f, hlt, dif_pos]; exact this
    have hll : ((List.range len).map f).length = len := by simp
    refine ⟨⟨(List.range len).map f, some a, mm⟩, by unfold slC; dsimp only; rw [hll], ?_, by dsimp only; rw [hll]; exact hlen, ?_⟩
    · dsimp only; rw [hll]; refine ⟨_, _, rfl, hl, fun _ => ⟨a, rfl, fun j hj => ?_⟩⟩; rw [flat_length hc, hll] at hj; have hdm : j / m < len := Nat.div_lt_of_lt_mul (by rw [Nat.mul_comm]; exact hj); have hmd : j % m < m := Nat.mod_lt _ hm0; have e1 := (hf (j / m) hdm).2 (j % m) hmd; have e2 : j / m * m + j % m = j := by rw [Nat.mul_comm]; exact Nat.div_add_mod j m
      rw [e2] at e1; have e3 := flat_get hc ((List.range len).map f) (j / m) (j % m) (by rw [hll]; exact hdm) hmd; rw [e2] at e3; rw [e1, e3]; simp
    · intro y hy; obtain ⟨i, hi2, rfl⟩ := List.mem_map.1 hy; exact (hf i (List.mem_range.1 hi2)).1
theorem kInt : Tryz.prog.cellsOf 3 = 1 := by kernel_rfl
theorem kBool : Tryz.prog.cellsOf 4 = 1 := by kernel_rfl
theorem kStr : Tryz.prog.cellsOf 9 = 1 := by kernel_rfl
theorem kS24 : Tryz.prog.cellsOf 24 = 1 := by kernel_rfl
theorem kS28 : Tryz.prog.cellsOf 28 = 1 := by kernel_rfl
theorem kS41 : Tryz.prog.cellsOf 41 = 1 := by kernel_rfl
theorem kS25 : Tryz.prog.cellsOf 25 = 1 := by kernel_rfl
theorem kS26 : Tryz.prog.cellsOf 26 = 1 := by kernel_rfl
theorem kS27 : Tryz.prog.cellsOf 27 = 1 := by kernel_rfl
theorem kS36 : Tryz.prog.cellsOf 36 = 1 := by kernel_rfl
theorem kS38 : Tryz.prog.cellsOf 38 = 1 := by kernel_rfl
theorem kS37 : Tryz.prog.cellsOf 37 = 1 := by kernel_rfl
theorem kWay : Tryz.prog.cellsOf 77 = 2 := by kernel_rfl
set_option maxRecDepth 100000 in
theorem opn_Way : Opn enc w base held 77 (fun a : Int × Int => pairC a) (fun a => In64 a.1 ∧ In64 a.2) := by
  intro fuel cs x h hF; have hl := struct_len underlying77 h kWay; obtain ⟨n0, e0, q0⟩ := opn_field underlying77 h hF 0 rfl opn_int kInt; obtain ⟨n1, e1, q1⟩ := opn_field underlying77 h hF 1 rfl opn_int kInt; refine ⟨(n0, n1), ?_, ?_⟩
  ·
    have z : cs.drop 2 = [] := List.drop_of_length_le (by omega); exact (List.drop_zero (l := cs)).symm.trans (cut_join 0 1 e0 (cut_join 1 1 e1 (z)))
  · exact ⟨q0, q1⟩
theorem kSpan : Tryz.prog.cellsOf 53 = 2 := by kernel_rfl
set_option maxRecDepth 100000 in
theorem opn_Span : Opn enc w base held 53 (fun a : Int × Int => pairC a) (fun a => In64 a.1 ∧ In64 a.2) := by
  intro fuel cs x h hF; have hl := struct_len underlying53 h kSpan; obtain ⟨n0, e0, q0⟩ := opn_field underlying53 h hF 0 rfl opn_int kInt; obtain ⟨n1, e1, q1⟩ := opn_field underlying53 h hF 1 rfl opn_int kInt; refine ⟨(n0, n1), ?_, ?_⟩
  ·
    have z : cs.drop 2 = [] := List.drop_of_length_le (by omega); exact (List.drop_zero (l := cs)).symm.trans (cut_join 0 1 e0 (cut_join 1 1 e1 (z)))
  · exact ⟨q0, q1⟩
theorem kStamp : Tryz.prog.cellsOf 55 = 2 := by kernel_rfl
set_option maxRecDepth 100000 in
theorem opn_Stamp : Opn enc w base held 55 (fun a : Int × Int => pairC a) (fun a => In64 a.1 ∧ In64 a.2) := by
  intro fuel cs x h hF; have hl := struct_len underlying55 h kStamp; obtain ⟨n0, e0, q0⟩ := opn_field underlying55 h hF 0 rfl opn_int kInt; obtain ⟨n1, e1, q1⟩ := opn_field underlying55 h hF 1 rfl opn_int kInt; refine ⟨(n0, n1), ?_, ?_⟩
  ·
    have z : cs.drop 2 = [] := List.drop_of_length_le (by omega); exact (List.drop_zero (l := cs)).symm.trans (cut_join 0 1 e0 (cut_join 1 1 e1 (z)))
  · exact ⟨q0, q1⟩
theorem kLeap : Tryz.prog.cellsOf 114 = 2 := by kernel_rfl
set_option maxRecDepth 100000 in
theorem opn_Leap : Opn enc w base held 114 (fun a : Int × Int => pairC a) (fun a => In64 a.1 ∧ In64 a.2) := by
  intro fuel cs x h hF; have hl := struct_len underlying114 h kLeap; obtain ⟨n0, e0, q0⟩ := opn_field underlying114 h hF 0 rfl opn_int kInt; obtain ⟨n1, e1, q1⟩ := opn_field underlying114 h hF 1 rfl opn_int kInt; refine ⟨(n0, n1), ?_, ?_⟩
  ·
    have z : cs.drop 2 = [] := List.drop_of_length_le (by omega); exact (List.drop_zero (l := cs)).symm.trans (cut_join 0 1 e0 (cut_join 1 1 e1 (z)))
  · exact ⟨q0, q1⟩
theorem kTick : Tryz.prog.cellsOf 119 = 2 := by kernel_rfl
set_option maxRecDepth 100000 in
theorem opn_Tick : Opn enc w base held 119 (fun a : Int × Int => pairC a) (fun a => In64 a.1 ∧ In64 a.2) := by
  intro fuel cs x h hF; have hl := struct_len underlying119 h kTick; obtain ⟨n0, e0, q0⟩ := opn_field underlying119 h hF 0 rfl opn_int kInt; obtain ⟨n1, e1, q1⟩ := opn_field underlying119 h hF 1 rfl opn_int kInt; refine ⟨(n0, n1), ?_, ?_⟩
  ·
    have z : cs.drop 2 = [] := List.drop_of_length_le (by omega); exact (List.drop_zero (l := cs)).symm.trans (cut_join 0 1 e0 (cut_join 1 1 e1 (z)))
  · exact ⟨q0, q1⟩
theorem kState : Tryz.prog.cellsOf 57 = 11 := by kernel_rfl
set_option maxRecDepth 100000 in
theorem opn_State : Opn enc w base held 57 (fun a : Sd => sdC a) (fun a => slOk w pairC (fun y => In64 y.1 ∧ In64 y.2) ⟨a.s.tab, a.A, a.cap⟩) := by
  intro fuel cs x h hF; have hl := struct_len underlying57 h kState; obtain ⟨sp, e0, _⟩ := opn_field underlying57 h hF 0 rfl opn_Span kSpan; obtain ⟨n1, e1, _⟩ := opn_field underlying57 h hF 1 rfl opn_int kInt; obtain ⟨b2, e2, _⟩ := opn_field underlying57 h hF 2 rfl opn_bool kBool; obtain ⟨n3, e3, _⟩ := opn_field underlying57 h hF 3 rfl opn_int kInt; obtain ⟨n4, e4, _⟩ := opn_field underlying57 h hF 4 rfl opn_int kInt; obtain ⟨b5, e5, _⟩ := opn_field underlying57 h hF 5 rfl opn_bool kBool; obtain ⟨tb, e6, qt⟩ := opn_field underlying57 h hF 6 rfl (opn_slice (a0 := (0, 0)) underlying41 opn_Leap kLeap (fun _ => rfl) (by decide) (show 1 ≤ Tryz.prog.bytesOf 114 from Nat.le_of_ble_eq_true (by kernel_rfl))) kS41; obtain ⟨st, e7, _⟩ := opn_field underlying57 h hF 7 rfl opn_Stamp kStamp; obtain ⟨n8, e8, _⟩ := opn_field underlying57 h hF 8 rfl opn_int kInt; refine ⟨⟨⟨sp.1, sp.2, n1, b2, n3, n4, b5, tb.l, st.1, st.2, n8⟩, tb.A, tb.cap⟩, ?_, ?_⟩
  ·
    have z : cs.drop 11 = [] := List.drop_of_length_le (by omega); exact (List.drop_zero (l := cs)).symm.trans (cut_join 0 2 e0 (cut_join 2 1 e1 (cut_join 3 1 e2 (cut_join 4 1 e3 (cut_join 5 1 e4 (cut_join 6 1 e5 (cut_join 7 1 e6 (cut_join 8 2 e7 (cut_join 10 1 e8 (z))))))))))
  · exact qt
theorem kLie : Tryz.prog.cellsOf 79 = 3 := by kernel_rfl
set_option maxRecDepth 100000 in
theorem opn_Lie : Opn enc w base held 79 (fun a : Li => liC a) (fun a => a.text.size ≤ 140737488355328) := by
  intro fuel cs x h hF; have hl := struct_len underlying79 h kLie; obtain ⟨wy, e0, _⟩ := opn_field underlying79 h hF 0 rfl opn_Way kWay; obtain ⟨s1, e1, q1⟩ := opn_field underlying79 h hF 1 rfl opn_string kStr; refine ⟨⟨wy.1, wy.2, s1⟩, ?_, ?_⟩
  ·
    have z : cs.drop 3 = [] := List.drop_of_length_le (by omega); exact (List.drop_zero (l := cs)).symm.trans (cut_join 0 2 e0 (cut_join 2 1 e1 (z)))
  · exact q1
theorem kAged : Tryz.prog.cellsOf 121 = 3 := by kernel_rfl
set_option maxRecDepth 100000 in
theorem opn_Aged : Opn enc w base held 121 (fun a : Ag => agC a) (fun a => True) := by
  intro fuel cs x h hF; have hl := struct_len underlying121 h kAged; obtain ⟨wy, e0, _⟩ := opn_field underlying121 h hF 0 rfl opn_Way kWay; obtain ⟨n1, e1, _⟩ := opn_field underlying121 h hF 1 rfl opn_int kInt; refine ⟨⟨wy.1, wy.2, n1⟩, ?_, ?_⟩
  ·
    have z : cs.drop 3 = [] := List.drop_of_length_le (by omega); exact (List.drop_zero (l := cs)).symm.trans (cut_join 0 2 e0 (cut_join 2 1 e1 (z)))
  · exact trivial
theorem kRead : Tryz.prog.cellsOf 43 = 5 := by kernel_rfl
set_option maxRecDepth 100000 in
theorem opn_Read : Opn enc w base held 43 (fun a : Rd => rdC a) (fun a => slOk w pairC (fun y => In64 y.1 ∧ In64 y.2) ⟨a.tab, a.A, a.cap⟩) := by
  intro fuel cs x h hF; have hl := struct_len underlying43 h kRead; obtain ⟨n0, e0, _⟩ := opn_field underlying43 h hF 0 rfl opn_int kInt; obtain ⟨b1, e1, _⟩ := opn_field underlying43 h hF 1 rfl opn_bool kBool; obtain ⟨n2, e2, _⟩ := opn_field underlying43 h hF 2 rfl opn_int kInt; obtain ⟨b3, e3, _⟩ := opn_field underlying43 h hF 3 rfl opn_bool kBool; obtain ⟨tb, e4, qt⟩ := opn_field underlying43 h hF 4 rfl (opn_slice (a0 := (0, 0)) underlying41 opn_Leap kLeap (fun _ => rfl) (by decide) (show 1 ≤ Tryz.prog.bytesOf 114 from Nat.le_of_ble_eq_true (by kernel_rfl))) kS41; refine ⟨⟨n0, b1, n2, b3, tb.l, tb.A, tb.cap⟩, ?_, ?_⟩
  ·
    have z : cs.drop 5 = [] := List.drop_of_length_le (by omega); exact (List.drop_zero (l := cs)).symm.trans (cut_join 0 1 e0 (cut_join 1 1 e1 (cut_join 2 1 e2 (cut_join 3 1 e3 (cut_join 4 1 e4 (z))))))
  · exact qt
theorem kParams : Tryz.prog.cellsOf 23 = 12 := by kernel_rfl
set_option maxRecDepth 100000 in
theorem opn_Params : Opn enc w base held 23 (fun a : Par => parC a) (fun a => True) := by
  intro fuel cs x h hF; have hl := struct_len underlying23 h kParams; obtain ⟨n0, e0, _⟩ := opn_field underlying23 h hF 0 rfl opn_int kInt; obtain ⟨n1, e1, _⟩ := opn_field underlying23 h hF 1 rfl opn_int kInt; obtain ⟨n2, e2, _⟩ := opn_field underlying23 h hF 2 rfl opn_int kInt; obtain ⟨n3, e3, _⟩ := opn_field underlying23 h hF 3 rfl opn_int kInt; obtain ⟨n4, e4, _⟩ := opn_field underlying23 h hF 4 rfl opn_int kInt; obtain ⟨n5, e5, _⟩ := opn_field underlying23 h hF 5 rfl opn_int kInt; obtain ⟨n6, e6, _⟩ := opn_field underlying23 h hF 6 rfl opn_int kInt; obtain ⟨n7, e7, _⟩ := opn_field underlying23 h hF 7 rfl opn_int kInt; obtain ⟨n8, e8, _⟩ := opn_field underlying23 h hF 8 rfl opn_int kInt; obtain ⟨n9, e9, _⟩ := opn_field underlying23 h hF 9 rfl opn_int kInt; obtain ⟨n10, e10, _⟩ := opn_field underlying23 h hF 10 rfl opn_int kInt; obtain ⟨n11, e11, _⟩ := opn_field underlying23 h hF 11 rfl opn_int kInt; refine ⟨⟨n0, n1, n2, n3, n4, n5, n6, n7, n8, n9, n10, n11⟩, ?_, ?_⟩
  ·
    have z : cs.drop 12 = [] := List.drop_of_length_le (by omega); exact (List.drop_zero (l := cs)).symm.trans (cut_join 0 1 e0 (cut_join 1 1 e1 (cut_join 2 1 e2 (cut_join 3 1 e3 (cut_join 4 1 e4 (cut_join 5 1 e5 (cut_join 6 1 e6 (cut_join 7 1 e7 (cut_join 8 1 e8 (cut_join 9 1 e9 (cut_join 10 1 e10 (cut_join 11 1 e11 (z)))))))))))))
  · exact trivial
def CsOk (w : World) (c : Cs) : Prop := slOk w (fun n : Int => [Value.int .i64 n]) In64 ⟨c.core, c.a3.1, c.a3.2⟩ ∧ slOk w pairC (fun a => In64 a.1 ∧ In64 a.2) ⟨c.links, c.a4.1, c.a4.2⟩ ∧ slOk w sdC (fun a : Sd => slOk w pairC (fun y => In64 y.1 ∧ In64 y.2) ⟨a.s.tab, a.A, a.cap⟩) ⟨c.states, c.a5.1, c.a5.2⟩ ∧ slOk w liC (fun a => a.text.size ≤ 140737488355328) ⟨c.frames, c.a6.1, c.a6.2⟩ ∧ slOk w (fun n : Int => [Value.int .i64 n]) In64 ⟨c.noise, c.a7.1, c.a7.2⟩ ∧ slOk w (fun s : ByteArray => [Value.string s]) (fun s => s.size ≤ 140737488355328) ⟨c.lies, c.a8.1, c.a8.2⟩
theorem kCase : Tryz.prog.cellsOf 30 = 20 := by kernel_rfl
set_option maxRecDepth 100000 in
theorem opn_Case : Opn enc w base held 30 (fun a : Cs => csC a) (fun a => CsOk w a) := by
  intro fuel cs x h hF; have hl := struct_len underlying30 h kCase; obtain ⟨p0, e0, _⟩ := opn_field underlying30 h hF 0 rfl opn_Params kParams; obtain ⟨n1, e1, _⟩ := opn_field underlying30 h hF 1 rfl opn_int kInt; obtain ⟨n2, e2, _⟩ := opn_field underlying30 h hF 2 rfl opn_int kInt; obtain ⟨co, e3, q3⟩ := opn_field underlying30 h hF 3 rfl (opn_slice (a0 := 0) underlying24 opn_int kInt (fun _ => rfl) (by decide) (show 1 ≤ Tryz.prog.bytesOf 3 from Nat.le_of_ble_eq_true (by kernel_rfl))) kS24; obtain ⟨lk, e4, q4⟩ := opn_field underlying30 h hF 4 rfl (opn_slice (a0 := (0, 0)) underlying25 opn_Way kWay (fun _ => rfl) (by decide) (show 1 ≤ Tryz.prog.bytesOf 77 from Nat.le_of_ble_eq_true (by kernel_rfl))) kS25; obtain ⟨sa, e5, q5⟩ := opn_field underlying30 h hF 5 rfl (opn_slice (a0 := ⟨⟨0, 0, 0, false, 0, 0, false, [], 0, 0, 0⟩, none, 0⟩) underlying26 opn_State kState (fun _ => rfl) (by decide) (show 1 ≤ Tryz.prog.bytesOf 57 from Nat.le_of_ble_eq_true (by kernel_rfl))) kS26; obtain ⟨fr, e6, q6⟩ := opn_field underlying30 h hF 6 rfl (opn_slice (a0 := ⟨0, 0, ByteArray.empty⟩) underlying27 opn_Lie kLie (fun _ => rfl) (by decide) (show 1 ≤ Tryz.prog.bytesOf 79 from Nat.le_of_ble_eq_true (by kernel_rfl))) kS27; obtain ⟨no, e7, q7⟩ := opn_field underlying30 h hF 7 rfl (opn_slice (a0 := 0) underlying24 opn_int kInt (fun _ => rfl) (by decide) (show 1 ≤ Tryz.prog.bytesOf 3 from Nat.le_of_ble_eq_true (by kernel_rfl))) kS24; obtain ⟨li, e8, q8⟩ := opn_field underlying30 h hF 8 rfl (opn_slice (a0 := ByteArray.empty) underlying28 opn_string kStr (fun _ => rfl) (by decide) (show 1 ≤ Tryz.prog.bytesOf 9 from Nat.le_of_ble_eq_true (by kernel_rfl))) kS28; refine ⟨⟨p0, n1, n2, co.l, lk.l, sa.l, fr.l, no.l, li.l, (co.A, co.cap), (lk.A, lk.cap), (sa.A, sa.cap), (fr.A, fr.cap), (no.A, no.cap), (li.A, li.cap)⟩, ?_, ?_⟩
  ·
    have z : cs.drop 20 = [] := List.drop_of_length_le (by omega); exact (List.drop_zero (l := cs)).symm.trans (cut_join 0 12 e0 (cut_join 12 1 e1 (cut_join 13 1 e2 (cut_join 14 1 e3 (cut_join 15 1 e4 (cut_join 16 1 e5 (cut_join 17 1 e6 (cut_join 18 1 e7 (cut_join 19 1 e8 (z))))))))))
  · exact ⟨q3, q4, q5, q6, q7, q8⟩
def StpIn (w : World) (s : Stp) : Prop := slOk w pairC (fun a => In64 a.1 ∧ In64 a.2) ⟨s.ticks, s.a0.1, s.a0.2⟩ ∧ slOk w rdC (fun a : Rd => slOk w pairC (fun y => In64 y.1 ∧ In64 y.2) ⟨a.tab, a.A, a.cap⟩) ⟨s.reads, s.a1.1, s.a1.2⟩ ∧ slOk w agC (fun _ => True) ⟨s.ages, s.a2.1, s.a2.2⟩ ∧ slOk w pairC (fun a => In64 a.1 ∧ In64 a.2) ⟨s.lost, s.a3.1, s.a3.2⟩ ∧ slOk w liC (fun a => a.text.size ≤ 140737488355328) ⟨s.lies, s.a4.1, s.a4.2⟩ ∧ slOk w (fun n : Int => [Value.int .i64 n]) In64 ⟨s.off, s.a5.1, s.a5.2⟩ ∧ slOk w pairC (fun a => In64 a.1 ∧ In64 a.2) ⟨s.cut, s.a6.1, s.a6.2⟩ ∧ slOk w pairC (fun a => In64 a.1 ∧ In64 a.2) ⟨s.join, s.a7.1, s.a7.2⟩
theorem kStep : Tryz.prog.cellsOf 40 = 8 := by kernel_rfl
set_option maxRecDepth 100000 in
theorem opn_Step : Opn enc w base held 40 (fun a : Stp => stpC a) (fun a => StpIn w a) := by
  intro fuel cs x h hF; have hl := struct_len underlying40 h kStep; obtain ⟨tk, e0, q0⟩ := opn_field underlying40 h hF 0 rfl (opn_slice (a0 := (0, 0)) underlying36 opn_Tick kTick (fun _ => rfl) (by decide) (show 1 ≤ Tryz.prog.bytesOf 119 from Nat.le_of_ble_eq_true (by kernel_rfl))) kS36; obtain ⟨rd, e1, q1⟩ := opn_field underlying40 h hF 1 rfl (opn_slice (a0 := ⟨0, false, 0, false, [], none, 0⟩) underlying37 opn_Read kRead (fun _ => rfl) (by decide) (show 1 ≤ Tryz.prog.bytesOf 43 from Nat.le_of_ble_eq_true (by kernel_rfl))) kS37; obtain ⟨ag, e2, q2⟩ := opn_field underlying40 h hF 2 rfl (opn_slice (a0 := ⟨0, 0, 0⟩) underlying38 opn_Aged kAged (fun _ => rfl) (by decide) (show 1 ≤ Tryz.prog.bytesOf 121 from Nat.le_of_ble_eq_true (by kernel_rfl))) kS38; obtain ⟨lo, e3, q3⟩ := opn_field underlying40 h hF 3 rfl (opn_slice (a0 := (0, 0)) underlying25 opn_Way kWay (fun _ => rfl) (by decide) (show 1 ≤ Tryz.prog.bytesOf 77 from Nat.le_of_ble_eq_true (by kernel_rfl))) kS25; obtain ⟨li, e4, q4⟩ := opn_field underlying40 h hF 4 rfl (opn_slice (a0 := ⟨0, 0, ByteArray.empty⟩) underlying27 opn_Lie kLie (fun _ => rfl) (by decide) (show 1 ≤ Tryz.prog.bytesOf 79 from Nat.le_of_ble_eq_true (by kernel_rfl))) kS27; obtain ⟨of, e5, q5⟩ := opn_field underlying40 h hF 5 rfl (opn_slice (a0 := 0) underlying24 opn_int kInt (fun _ => rfl) (by decide) (show 1 ≤ Tryz.prog.bytesOf 3 from Nat.le_of_ble_eq_true (by kernel_rfl))) kS24; obtain ⟨cu, e6, q6⟩ := opn_field underlying40 h hF 6 rfl (opn_slice (a0 := (0, 0)) underlying25 opn_Way kWay (fun _ => rfl) (by decide) (show 1 ≤ Tryz.prog.bytesOf 77 from Nat.le_of_ble_eq_true (by kernel_rfl))) kS25; obtain ⟨jo, e7, q7⟩ := opn_field underlying40 h hF 7 rfl (opn_slice (a0 := (0, 0)) underlying25 opn_Way kWay (fun _ => rfl) (by decide) (show 1 ≤ Tryz.prog.bytesOf 77 from Nat.le_of_ble_eq_true (by kernel_rfl))) kS25; refine ⟨⟨tk.l, rd.l, ag.l, lo.l, li.l, of.l, cu.l, jo.l, (tk.A, tk.cap), (rd.A, rd.cap), (ag.A, ag.cap), (lo.A, lo.cap), (li.A, li.cap), (of.A, of.cap), (cu.A, cu.cap), (jo.A, jo.cap)⟩, ?_, ?_⟩
  ·
    have z : cs.drop 8 = [] := List.drop_of_length_le (by omega); exact (List.drop_zero (l := cs)).symm.trans (cut_join 0 1 e0 (cut_join 1 1 e1 (cut_join 2 1 e2 (cut_join 3 1 e3 (cut_join 4 1 e4 (cut_join 5 1 e5 (cut_join 6 1 e6 (cut_join 7 1 e7 (z)))))))))
  · exact ⟨q0, q1, q2, q3, q4, q5, q6, q7⟩
theorem opn_Steps : Opn enc w base held 31 slC (slOk w stpC (StpIn w)) := (opn_slice (a0 := ⟨[], [], [], [], [], [], [], [], (none, 0), (none, 0), (none, 0), (none, 0), (none, 0), (none, 0), (none, 0), (none, 0)⟩) underlying31 opn_Step kStep (fun _ => rfl) (by decide) (show 1 ≤ Tryz.prog.bytesOf 40 from Nat.le_of_ble_eq_true (by kernel_rfl)))
end
end Go.Proofs.YtaanjifekgfemaaGreat.Op
end
section
namespace Go.Proofs.YtaanjifekgfemaaGreat.Op
open Tryz
open Go.RowKit Go.Proofs.YtaanjifekgfemaaGreat.K Go.Proofs.YtaanjifekgfemaaGreat.W Go.Proofs.YtaanjifekgfemaaGreat.Cl
theorem lcs_flat (l : List (Int × Int)) : flat pairC l = lcs l := by
  induction l with
  | nil => rfl
  | cons x l ih => show pairC x ++ flat pairC l = _; rw [ih]; rfl
theorem ivs_flat (l : List Int) : flat (fun n : Int => [Value.int .i64 n]) l = ivs l := by
  induction l with
  | nil => rfl
  | cons x l ih => show [Value.int .i64 x] ++ flat (fun n : Int => [Value.int .i64 n]) l = _; rw [ih]; rfl
theorem strC_flat (l : List ByteArray) : flat (fun s : ByteArray => [Value.string s]) l = strC l := by
  induction l with
  | nil => rfl
  | cons x l ih => show [Value.string x] ++ flat (fun s : ByteArray => [Value.string s]) l = _; rw [ih]; rfl
def Known (w : World) (r : Res) : Prop := ∃ v n xs, r = slR v n xs ∧ Sl w v n xs
theorem known_of {w : World} {v : Value} {n : Nat} {xs : List Value} (h : Sl w v n xs) : Known w (slR v n xs) := ⟨v, n, xs, rfl, h⟩
theorem start_args {w : World} (G : List Res) (h : ∀ r ∈ G, Known w r) : St w [] w [] G := by
  induction G with
  | nil => exact St.start w
  | cons r G ih =>
    obtain ⟨v, n, xs, rfl, hs⟩ := h r (.head _); exact (ih fun r hr => h r (.tail _ hr)).arg hs
def tabF (A : Option Addr) (tab : List (Int × Int)) (cap : Nat) : Res := slR (.slice A tab.length cap) tab.length (lcs tab)
def stF (x : Sd) : Res := tabF x.A x.s.tab x.cap
def csF (c : Cs) : List Res := slR (.slice c.a3.1 c.core.length c.a3.2) c.core.length (ivs c.core) :: slR (.slice c.a4.1 c.links.length c.a4.2) c.links.length (flat pairC c.links) :: slR (.slice c.a5.1 c.states.length c.a5.2) c.states.length (flat sdC c.states) ::
  slR (.slice c.a6.1 c.frames.length c.a6.2) c.frames.length (flat liC c.frames) :: slR (.slice c.a7.1 c.noise.length c.a7.2) c.noise.length (ivs c.noise) :: slR (.slice c.a8.1 c.lies.length c.a8.2) c.lies.length (strC c.lies) :: c.states.map stF
theorem csF_known {w : World} {c : Cs} (h : CsOk w c) : ∀ r ∈ csF c, Known w r := by
  obtain ⟨h3, h4, h5, h6, h7, h8⟩ := h; have k3 := h3.1; have k7 := h7.1; have k8 := h8.1; dsimp only at k3 k7 k8; rw [ivs_flat] at k3 k7; rw [strC_flat] at k8; intro r hr; unfold csF at hr; rcases List.mem_cons.1 hr with rfl | hr
  · exact known_of k3
  rcases List.mem_cons.1 hr with rfl | hr
  · exact known_of h4.1
  rcases List.mem_cons.1 hr with rfl | hr
  · exact known_of h5.1
  rcases List.mem_cons.1 hr with rfl | hr
  · exact known_of h6.1
  rcases List.mem_cons.1 hr with rfl | hr
  · exact known_of k7
  rcases List.mem_cons.1 hr with rfl | hr
  · exact known_of k8
  obtain ⟨x, hx, rfl⟩ := List.mem_map.1 hr; have h9 := (h5.2.2 x hx).1; dsimp only at h9; rw [lcs_flat] at h9; exact known_of h9
theorem csF_in {w : World} {c : Cs} (h : CsOk w c) {G : List Res} (hG : ∀ r ∈ csF c, r ∈ G) : c.In G := by
  obtain ⟨h3, h4, h5, h6, h7, h8⟩ := h; have m := fun (r : Res) (hr : r ∈ csF c) => hG r hr; unfold csF at m; refine ⟨Rds.ofG (m _ (.head _)), Rds.ofG (m _ (.tail _ (.head _))), Rds.ofG (m _ (.tail _ (.tail _ (.head _)))), Rds.ofG (m _ (.tail _ (.tail _ (.tail _ (.head _))))), Rds.ofG (m _ (.tail _ (.tail _ (.tail _ (.tail _ (.head _)))))), Rds.ofG (m _ (.tail _ (.tail _ (.tail _ (.tail _ (.tail _ (.head _))))))), ?_, h6.2.2, h8.2.2⟩; intro x hx; exact ⟨(h5.2.2 x hx).2.2, Rds.ofG (m _ (.tail _ (.tail _ (.tail _ (.tail _ (.tail _ (.tail _ (List.mem_map.2 ⟨x, hx, rfl⟩))))))))⟩
def rdF (x : Rd) : Res := tabF x.A x.tab x.cap
def stpF (s : Stp) : List Res := slR (.slice s.a0.1 s.ticks.length s.a0.2) s.ticks.length (flat pairC s.ticks) :: slR (.slice s.a1.1 s.reads.length s.a1.2) s.reads.length (flat rdC s.reads) :: slR (.slice s.a2.1 s.ages.length s.a2.2) s.ages.length (flat agC s.ages) :: slR (.slice s.a3.1 s.lost.length s.a3.2) s.lost.length (flat pairC s.lost) ::
  slR (.slice s.a4.1 s.lies.length s.a4.2) s.lies.length (flat liC s.lies) :: slR (.slice s.a5.1 s.off.length s.a5.2) s.off.length (ivs s.off) :: slR (.slice s.a6.1 s.cut.length s.a6.2) s.cut.length (flat pairC s.cut) :: slR (.slice s.a7.1 s.join.length s.a7.2) s.join.length (flat pairC s.join) :: s.reads.map rdF
theorem stpF_known {w : World} {s : Stp} (h : StpIn w s) : ∀ r ∈ stpF s, Known w r := by
  obtain ⟨h0, h1, h2, h3, h4, h5, h6, h7⟩ := h; have k5 := h5.1; dsimp only at k5; rw [ivs_flat] at k5; intro r hr; unfold stpF at hr; rcases List.mem_cons.1 hr with rfl | hr
  · exact known_of h0.1
  rcases List.mem_cons.1 hr with rfl | hr
  · exact known_of h1.1
  rcases List.mem_cons.1 hr with rfl | hr
  · exact known_of h2.1
  rcases List.mem_cons.1 hr with rfl | hr
  · exact known_of h3.1
  rcases List.mem_cons.1 hr with rfl | hr
  · exact known_of h4.1
  rcases List.mem_cons.1 hr with rfl | hr
  · exact known_of k5
  rcases List.mem_cons.1 hr with rfl | hr
  · exact known_of h6.1
  rcases List.mem_cons.1 hr with rfl | hr
  · exact known_of h7.1
  obtain ⟨x, hx, rfl⟩ := List.mem_map.1 hr; have h9 := (h1.2.2 x hx).1; dsimp only at h9; rw [lcs_flat] at h9; exact known_of h9
theorem stpF_in {w : World} {s : Stp} (h : StpIn w s) {G : List Res} (hG : ∀ r ∈ stpF s, r ∈ G) : s.In G := by
  obtain ⟨h0, h1, h2, h3, h4, h5, h6, h7⟩ := h; have m := fun (r : Res) (hr : r ∈ stpF s) => hG r hr; unfold stpF at m; refine ⟨Rds.ofG (m _ (.head _)), Rds.ofG (m _ (.tail _ (.head _))), Rds.ofG (m _ (.tail _ (.tail _ (.head _)))), Rds.ofG (m _ (.tail _ (.tail _ (.tail _ (.head _))))), Rds.ofG (m _ (.tail _ (.tail _ (.tail _ (.tail _ (.head _)))))), Rds.ofG (m _ (.tail _ (.tail _ (.tail _ (.tail _ (.tail _ (.head _))))))), Rds.ofG (m _ (.tail _ (.tail _ (.tail _ (.tail _ (.tail _ (.tail _ (.head _)))))))), Rds.ofG (m _ (.tail _ (.tail _ (.tail _ (.tail _ (.tail _ (.tail _ (.tail _ (.head _))))))))), ⟨h0.2.1, h1.2.1, h2.2.1, h3.2.1, h4.2.1, h5.2.1, h6.2.1, h7.2.1⟩, ?_⟩; intro x hx; exact ⟨(h1.2.2 x hx).2.1, (h1.2.2 x hx).2.2, Rds.ofG (m _ (.tail _ (.tail _ (.tail _ (.tail _ (.tail _ (.tail _ (.tail _ (.tail _ (List.mem_map.2 ⟨x, hx, rfl⟩))))))))))⟩
set_option maxRecDepth 100000 in
theorem pow_of {w : World} (h : w.ShapedOpen Tryz.prog) : ∃ tbl : List Int, tbl.length = 20 ∧ Known w (powR tbl) := by
  have h0 : ((begin Tryz.prog (fun _ _ => 0) default).world.heap[2]?).bind Obj.row? = some (Array.replicate 20 (.int .u64 0), 321) := by kernel_rfl
  obtain ⟨cs, hh, hs, hr⟩ := h.1 2 _ _ (of_decide_eq_true (by kernel_rfl)) h0; obtain ⟨ts, hts, _, hall⟩ := hr (by kernel_rfl); have hct : Tryz.prog.cellTypes Tryz.prog.depth 321 = some (List.replicate 20 192) := by kernel_rfl
  rw [hct] at hts; injection hts with hts; subst hts; have hsz : cs.size = 20 := by simpa using hs
  have key : ∀ i, i < 20 → ∃ m : Int, w.cell? ⟨2, i, none⟩ = some (.int .u64 m) := by
    intro i hi; have h1 : i < cs.size := by omega
    obtain ⟨u, hu', hok⟩ := hall i cs[i] (by simp [h1])
    have : u = 192 := by
      rw [List.getElem?_replicate] at hu'; split at hu'
      · injection hu' with hu'; exact hu'.symm
      · cases hu'
    subst this; have hcell : w.cell? ⟨2, i, none⟩ = some cs[i] := by simp [World.cell?, hh, h1]
    rw [hcell]; unfold Cell.ok at hok; rw [underlying192] at hok; cases hv : cs[i] <;> rw [hv] at hok <;> simp at hok
    case int k' n => exact ⟨n, by rw [hok.1]⟩
  let f : Nat → Int := fun i => if h : i < 20 then Classical.choose (key i h) else 0
  have hf : ∀ i, i < 20 → w.cell? ⟨2, i, none⟩ = some (.int .u64 (f i)) := by
    intro i hi; have := Classical.choose_spec (key i hi); simp only [f, hi, dif_pos]; exact this
  refine ⟨(List.range 20).map f, by simp, known_of ⟨_, _, rfl, Nat.le_refl _, fun _ => ⟨_, rfl, fun j hj => ?_⟩⟩⟩; rw [List.length_map, List.length_map, List.length_range] at hj; rw [add_lit', Nat.zero_add, hf j hj]; simp [hj]
set_option maxRecDepth 100000 in
theorem csOk_of {H : Type} {enc : TypeId × Value → H} {w : World} {base : Nat} {held : Bool} {r : Reach} {b0 : Nat} {v : Value} {d : DataW H} {p : List MemPlace} (hv : Value.okWide Tryz.prog w r b0 30 v) (h : DataW.Trod enc Tryz.prog w base (fun _ => true) held 30 v d p) (hF : Fine 30 d) : ∃ c : Cs, v = .agg (csC c).toArray ∧ CsOk w c := by
  obtain ⟨cs, rfl, hsz⟩ := Go.WideShapes.okWide_struct underlying30 hv; obtain ⟨fuel, hf⟩ := h; obtain ⟨c, h1, h2⟩ := opn_Case fuel _ _ hf hF; have e : (Value.agg cs).cells.toList = cs.toList := by simp [Value.cells]
  rw [e] at h1; have h3 : cs.toList = csC c := h1; exact ⟨c, by rw [← h3], h2⟩
set_option maxRecDepth 100000 in
theorem slOk_of {H : Type} {enc : TypeId × Value → H} {w : World} {base : Nat} {held : Bool} {r : Reach} {b0 : Nat} {t e : TypeId} (ht : Tryz.prog.underlying t = some (.slice e)) {α : Type} {c : α → List Value} {Q : α → Prop} (ho : Opn enc w base held t slC (slOk w c Q)) {v : Value} {d : DataW H} {p : List MemPlace} (hv : Value.okWide Tryz.prog w r b0 t v) (h : DataW.Trod enc Tryz.prog w base (fun _ => true) held t v d p) (hF : Fine t d) : ∃ s : SlOf α, v = .slice s.A s.l.length s.cap ∧ slOk w c Q s := by
  obtain ⟨A, len, cap, rfl⟩ := Go.WideShapes.okWide_slice ht hv; obtain ⟨fuel, hf⟩ := h; obtain ⟨s, h1, h2⟩ := ho fuel _ _ hf hF; have e : (Value.slice A len cap).cells.toList = [.slice A len cap] := by simp [Value.cells]
  rw [e] at h1; injection h1 with h1 _; exact ⟨s, h1, h2⟩
theorem total_top {w : World} (hsh : w.ShapedOpen Tryz.prog) {c : Cs} (hc : CsOk w c) {s : SlOf Stp} (hs : slOk w stpC (StpIn w) s) : Calls Tryz.prog 3 #[.agg (csC c).toArray, .slice s.A s.l.length s.cap] w fun e w' => e = .returned (.bool true) ∧ Below w.heap.size w w' := by
  obtain ⟨tbl, htl, hk⟩ := pow_of hsh
  have hst := start_args (w := w) (powR tbl :: slR (.slice s.A s.l.length s.cap) s.l.length (flat stpC s.l) :: (csF c ++ s.l.flatMap stpF)) (by
    intro r hr; rcases List.mem_cons.1 hr with rfl | hr
    · exact hk
    rcases List.mem_cons.1 hr with rfl | hr
    · exact known_of hs.1
    rcases List.mem_append.1 hr with hr | hr
    · exact csF_known hc r hr
    · obtain ⟨x, hx, hr⟩ := List.mem_flatMap.1 hr
      exact stpF_known (hs.2.2 x hx) r hr)
  refine (total_any tbl htl c s.l (s.A, s.cap) _ _ _ _ _ hst (csF_in hc fun r hr => .tail _ (.tail _ (List.mem_append.2 (.inl hr)))) ⟨powR tbl, .inr (.head _), fun w _ => Sl.nil w⟩ (.head _) (Rds.ofG (.tail _ (.head _))) hs.2.1 (fun x hx => stpF_in (hs.2.2 x hx) fun r hr => .tail _ (.tail _ (List.mem_append.2 (.inr (List.mem_flatMap.2 ⟨x, hx, hr⟩)))))).mono ?_; rintro e w' ⟨he, G', hG', hst⟩; exact ⟨he, hst.below⟩
end Go.Proofs.YtaanjifekgfemaaGreat.Op
end
