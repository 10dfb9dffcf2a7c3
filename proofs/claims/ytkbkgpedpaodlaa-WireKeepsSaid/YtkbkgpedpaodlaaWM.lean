/- A message that came in, opened; the walk of WireGood. -/
import Derived.Test.YtkbkgpedpaodlaaWG
import Derived.Deep.Slices
import Derived.Deep.Fields
import Derived.ChangeSame
import Derived.ChangeArms
set_option linter.unusedVariables false
set_option linter.unusedSimpArgs false
namespace Go.Proofs.Ytkbkgpedpaodlaa.W
open Go.RowKit Go.Proofs.Ytkbkgpedpaodlaa.K
open Go.ChangeShapes Go.WideShapes Go.Deep
section
variable {H : Type} {enc : TypeId × Value → H} {w : World} {base : Nat} {held : Bool}
theorem wf_in {n : Int} (h : (Lit.int .i64 n).wf = true) : In64 n := by
  simp only [Lit.wf, IntKind.min, IntKind.max, IntKind.signed, IntKind.bits, Bool.and_eq_true, decide_eq_true_eq] at h
  unfold In64
  simp at h
  omega
theorem k3 : Try.prog.cellsOf 3 = 1 := by kernel_rfl
theorem k4 : Try.prog.cellsOf 4 = 1 := by kernel_rfl
theorem k23 : Try.prog.cellsOf 23 = 2 := by kernel_rfl
theorem k25 : Try.prog.cellsOf 25 = 2 := by kernel_rfl
theorem k26 : Try.prog.cellsOf 26 = 1 := by kernel_rfl
theorem k28 : Try.prog.cellsOf 28 = 14 := by kernel_rfl
theorem k45 : Try.prog.cellsOf 45 = 2 := by kernel_rfl
theorem two_of {t : TypeId} {f0 f1 : Field} (ht : Try.prog.underlying t = some (.struct #[f0, f1])) (h0 : f0.type = 3) (h1 : f1.type = 3) (o0 : f0.offset = 0) (o1 : f1.offset = 1) {spare : Nat → Bool} {fuel : Nat} {c0 c1 : Value} {x : DataW H × List MemPlace}
    (h : DataW.trod enc Try.prog w base spare held fuel t [c0, c1] = some x) : ∃ m n : Int, c0 = i64 m ∧ c1 = i64 n ∧ In64 m ∧ In64 n := by
  obtain ⟨xs, n, _, _, _, hl, hg⟩ := DataW.trod_struct ht h
  have hl : xs.length = 2 := by simpa using hl
  have g0 := hg 0 f0 rfl
  have g1 := hg 1 f1 rfl
  rw [h0, o0, k3] at g0
  rw [h1, o1, k3] at g1
  rw [List.getElem?_eq_getElem (by omega)] at g0 g1
  obtain ⟨m, hm, _, wm⟩ := DataW.trod_int Try.underlying3 g0
  obtain ⟨n', hn, _, wn⟩ := DataW.trod_int Try.underlying3 g1
  simp at hm hn
  exact ⟨m, n', hm, hn, wf_in wm, wf_in wn⟩
theorem tab_of {spare : Nat → Bool} (hsp : ∀ b, spare b = true) {fuel : Nat} {c : Value} {x : DataW H × List MemPlace} (h : DataW.trod enc Try.prog w base spare held fuel 26 [c] = some x) :
    ∃ (tab : List (Int × Int)) (A : Option Addr) (cap : Nat), c = .slice A tab.length cap ∧ Sl w (.slice A tab.length cap) tab.length (lcs tab) ∧ tab.length ≤ 9223372036854775807 ∧ ∀ x ∈ tab, In64 x.1 ∧ In64 x.2 := by
  rcases open_slice Try.underlying26 h with ⟨hc, _⟩ | ⟨a, len, cap, m, n, D, Pl, hc, _, hl, hm, hmm, _, hi⟩
  · simp at hc
    subst hc
    exact ⟨[], none, 0, rfl, Sl.nil w, by simp, by simp⟩
  · simp at hc
    subst hc
    rw [hsp, if_pos rfl] at hmm
    subst hmm
    have H : ∀ i, i < len → ∃ x : Int × Int, w.cell? (a.add (i * 2)) = some (i64 x.1) ∧ w.cell? (a.add (i * 2 + 1)) = some (i64 x.2) ∧ In64 x.1 ∧ In64 x.2 := by
      intro i hlt
      obtain ⟨cs, hcs, ht⟩ := hi i (by omega)
      rw [k45] at hcs
      obtain ⟨_, hcl, hat⟩ := World.cells?_some hcs
      match cs, hcl with
      | [c0, c1], _ =>
        obtain ⟨m, n, rfl, rfl, h1, h2⟩ := two_of Try.underlying45 rfl rfl rfl rfl ht
        have h3 := hat 0 (by omega)
        have h4 := hat 1 (by omega)
        rw [K.add_add] at h3 h4
        exact ⟨(m, n), by simpa using h3, by simpa using h4, h1, h2⟩
    let f : Nat → Int × Int := fun i => if h : i < len then Classical.choose (H i h) else (0, 0)
    have hf : ∀ i, i < len → w.cell? (a.add (i * 2)) = some (i64 (f i).1) ∧ w.cell? (a.add (i * 2 + 1)) = some (i64 (f i).2) ∧ In64 (f i).1 ∧ In64 (f i).2 := by
      intro i hlt
      have := Classical.choose_spec (H i hlt)
      simp only [f, hlt, dif_pos]
      exact this
    have hlen : ((List.range len).map f).length = len := by simp
    have hlp : ∀ i, i < len → lp ((List.range len).map f) i = f i := by
      intro i hlt
      simp [lp, hlt]
    refine ⟨(List.range len).map f, some a, m, by rw [hlen], ?_, by rw [hlen]; unfold maxLen at hm; omega, ?_⟩
    · rw [hlen]
      refine ⟨_, _, rfl, hl, fun _ => ⟨a, rfl, fun j hj => ?_⟩⟩
      rw [lcs_length, hlen] at hj
      obtain ⟨g1, g2⟩ := lcs_get ((List.range len).map f) (j / 2) (by rw [hlen]; omega)
      obtain ⟨f1, f2, _, _⟩ := hf (j / 2) (by omega)
      rw [hlp _ (by omega)] at g1 g2
      rcases (show j = j / 2 * 2 ∨ j = j / 2 * 2 + 1 by omega) with e | e
      · have e3 : j / 2 * 2 = j := e.symm
        rw [e3] at f1 g1
        rw [f1, g1]
      · have e2 : w.cell? (a.add j) = (lcs ((List.range len).map f))[j]? := by
          have e3 : j / 2 * 2 + 1 = j := e.symm
          rw [e3] at f2 g2
          rw [f2, g2]
        exact e2
    · intro x hx
      obtain ⟨i, hi', rfl⟩ := List.mem_map.1 hx
      have := hf i (by simpa using hi')
      exact ⟨this.2.2.1, this.2.2.2⟩
/-- A message that came in. -/
theorem msg_of {r : Reach} {b0 : Nat} {spare : Nat → Bool} (hsp : ∀ b, spare b = true) {v : Value} {d : DataW H} {p : List MemPlace} (hv : Value.okWide Try.prog w r b0 28 v) (h : DataW.Trod enc Try.prog w base spare held 28 v d p) :
    ∃ (kind from_ slo shi held_ hops : Int) (good ref : Bool) (elo ehi pulse time num : Int) (tab : List (Int × Int)) (A : Option Addr) (cap : Nat),
      v = .agg #[.int .i64 kind, .int .i64 from_, .int .i64 slo, .int .i64 shi, .int .i64 held_, .int .i64 hops, .bool good, .bool ref, .int .i64 elo, .int .i64 ehi, .int .i64 pulse, .int .i64 time, .int .i64 num, .slice A tab.length cap] ∧
      Sl w (.slice A tab.length cap) tab.length (lcs tab) ∧ tab.length ≤ 9223372036854775807 ∧ (∀ x ∈ tab, In64 x.1 ∧ In64 x.2) ∧ (∀ x ∈ [kind, from_, slo, shi, held_, hops, elo, ehi, pulse, time, num], In64 x) := by
  obtain ⟨cs, rfl, hsz⟩ := okWide_struct Try.underlying28 hv
  obtain ⟨l⟩ := cs
  match l, hsz.trans k28 with
  | [c0, c1, c2, c3, c4, c5, c6, c7, c8, c9, c10, c11, c12, c13], _ =>
    obtain ⟨fuel, hf⟩ := h
    obtain ⟨xs, n, _, _, _, hl, hg⟩ := DataW.trod_struct Try.underlying28 hf
    have hl : xs.length = 11 := by simpa using hl
    have g0 : DataW.trod enc Try.prog w base spare held n 3 ((([c0, c1, c2, c3, c4, c5, c6, c7, c8, c9, c10, c11, c12, c13] : List Value).drop 0).take (Try.prog.cellsOf 3)) = xs[0]? := hg 0 _ rfl
    rw [k3, List.getElem?_eq_getElem (by omega)] at g0
    obtain ⟨n0, e0, _, w0⟩ := DataW.trod_int Try.underlying3 g0
    obtain rfl : c0 = i64 n0 := by simpa [Value.cells] using e0
    have g1 : DataW.trod enc Try.prog w base spare held n 3 ((([i64 n0, c1, c2, c3, c4, c5, c6, c7, c8, c9, c10, c11, c12, c13] : List Value).drop 1).take (Try.prog.cellsOf 3)) = xs[1]? := hg 1 _ rfl
    rw [k3, List.getElem?_eq_getElem (by omega)] at g1
    obtain ⟨n1, e1, _, w1⟩ := DataW.trod_int Try.underlying3 g1
    obtain rfl : c1 = i64 n1 := by simpa [Value.cells] using e1
    have g2 : DataW.trod enc Try.prog w base spare held n 23 ((([i64 n0, i64 n1, c2, c3, c4, c5, c6, c7, c8, c9, c10, c11, c12, c13] : List Value).drop 2).take (Try.prog.cellsOf 23)) = xs[2]? := hg 2 _ rfl
    rw [k23, List.getElem?_eq_getElem (by omega)] at g2
    obtain ⟨m2, n2, e2, f2, w2, v2⟩ := two_of Try.underlying23 rfl rfl rfl rfl (c0 := c2) (c1 := c3) (by simpa [Value.cells] using g2)
    subst e2; subst f2
    have g3 : DataW.trod enc Try.prog w base spare held n 3 ((([i64 n0, i64 n1, i64 m2, i64 n2, c4, c5, c6, c7, c8, c9, c10, c11, c12, c13] : List Value).drop 4).take (Try.prog.cellsOf 3)) = xs[3]? := hg 3 _ rfl
    rw [k3, List.getElem?_eq_getElem (by omega)] at g3
    obtain ⟨n3, e3, _, w3⟩ := DataW.trod_int Try.underlying3 g3
    obtain rfl : c4 = i64 n3 := by simpa [Value.cells] using e3
    have g4 : DataW.trod enc Try.prog w base spare held n 3 ((([i64 n0, i64 n1, i64 m2, i64 n2, i64 n3, c5, c6, c7, c8, c9, c10, c11, c12, c13] : List Value).drop 5).take (Try.prog.cellsOf 3)) = xs[4]? := hg 4 _ rfl
    rw [k3, List.getElem?_eq_getElem (by omega)] at g4
    obtain ⟨n4, e4, _, w4⟩ := DataW.trod_int Try.underlying3 g4
    obtain rfl : c5 = i64 n4 := by simpa [Value.cells] using e4
    have g5 : DataW.trod enc Try.prog w base spare held n 4 ((([i64 n0, i64 n1, i64 m2, i64 n2, i64 n3, i64 n4, c6, c7, c8, c9, c10, c11, c12, c13] : List Value).drop 6).take (Try.prog.cellsOf 4)) = xs[5]? := hg 5 _ rfl
    rw [k4, List.getElem?_eq_getElem (by omega)] at g5
    obtain ⟨n5, e5, _⟩ := DataW.trod_bool Try.underlying4 g5
    obtain rfl : c6 = .bool n5 := by simpa [Value.cells] using e5
    have g6 : DataW.trod enc Try.prog w base spare held n 4 ((([i64 n0, i64 n1, i64 m2, i64 n2, i64 n3, i64 n4, .bool n5, c7, c8, c9, c10, c11, c12, c13] : List Value).drop 7).take (Try.prog.cellsOf 4)) = xs[6]? := hg 6 _ rfl
    rw [k4, List.getElem?_eq_getElem (by omega)] at g6
    obtain ⟨n6, e6, _⟩ := DataW.trod_bool Try.underlying4 g6
    obtain rfl : c7 = .bool n6 := by simpa [Value.cells] using e6
    have g7 : DataW.trod enc Try.prog w base spare held n 23 ((([i64 n0, i64 n1, i64 m2, i64 n2, i64 n3, i64 n4, .bool n5, .bool n6, c8, c9, c10, c11, c12, c13] : List Value).drop 8).take (Try.prog.cellsOf 23)) = xs[7]? := hg 7 _ rfl
    rw [k23, List.getElem?_eq_getElem (by omega)] at g7
    obtain ⟨m7, n7, e7, f7, w7, v7⟩ := two_of Try.underlying23 rfl rfl rfl rfl (c0 := c8) (c1 := c9) (by simpa [Value.cells] using g7)
    subst e7; subst f7
    have g8 : DataW.trod enc Try.prog w base spare held n 3 ((([i64 n0, i64 n1, i64 m2, i64 n2, i64 n3, i64 n4, .bool n5, .bool n6, i64 m7, i64 n7, c10, c11, c12, c13] : List Value).drop 10).take (Try.prog.cellsOf 3)) = xs[8]? := hg 8 _ rfl
    rw [k3, List.getElem?_eq_getElem (by omega)] at g8
    obtain ⟨n8, e8, _, w8⟩ := DataW.trod_int Try.underlying3 g8
    obtain rfl : c10 = i64 n8 := by simpa [Value.cells] using e8
    have g9 : DataW.trod enc Try.prog w base spare held n 25 ((([i64 n0, i64 n1, i64 m2, i64 n2, i64 n3, i64 n4, .bool n5, .bool n6, i64 m7, i64 n7, i64 n8, c11, c12, c13] : List Value).drop 11).take (Try.prog.cellsOf 25)) = xs[9]? := hg 9 _ rfl
    rw [k25, List.getElem?_eq_getElem (by omega)] at g9
    obtain ⟨m9, n9, e9, f9, w9, v9⟩ := two_of Try.underlying25 rfl rfl rfl rfl (c0 := c11) (c1 := c12) (by simpa [Value.cells] using g9)
    subst e9; subst f9
    have g10 : DataW.trod enc Try.prog w base spare held n 26 ((([i64 n0, i64 n1, i64 m2, i64 n2, i64 n3, i64 n4, .bool n5, .bool n6, i64 m7, i64 n7, i64 n8, i64 m9, i64 n9, c13] : List Value).drop 13).take (Try.prog.cellsOf 26)) = xs[10]? := hg 10 _ rfl
    rw [k26, List.getElem?_eq_getElem (by omega)] at g10
    obtain ⟨tab, A, cap, e10, h1, h2, h3⟩ := tab_of hsp (c := c13) (by simpa [Value.cells] using g10)
    subst e10
    exact ⟨n0, n1, m2, n2, n3, n4, n5, n6, m7, n7, n8, m9, n9, tab, A, cap, rfl, h1, h2, h3, by simp only [List.forall_mem_cons]; exact ⟨wf_in w0, wf_in w1, w2, v2, wf_in w3, wf_in w4, w7, v7, wf_in w8, w9, v9, by simp⟩⟩
end
theorem bd28_ {S ρ ty} {parts : Array (Nat × Operand)}  (hp : (parts.toList.map fun x => (x.1, ev ρ x.2)) = []) : Y Try.prog S ρ (.build 28 parts) ty (.agg #[Value.int .i64 0, Value.int .i64 0, Value.int .i64 0, Value.int .i64 0, Value.int .i64 0, Value.int .i64 0, Value.bool false, Value.bool false, Value.int .i64 0, Value.int .i64 0, Value.int .i64 0, Value.int .i64 0, Value.int .i64 0, Value.slice none 0 0]) :=
  Y.build hp fun w => by simp [Instr.build, go_sem]
theorem bd28_0 {S ρ ty} {parts : Array (Nat × Operand)} {x0 : Int} (hp : (parts.toList.map fun x => (x.1, ev ρ x.2)) = [(0, Value.int .i64 x0)]) : Y Try.prog S ρ (.build 28 parts) ty (.agg #[Value.int .i64 x0, Value.int .i64 0, Value.int .i64 0, Value.int .i64 0, Value.int .i64 0, Value.int .i64 0, Value.bool false, Value.bool false, Value.int .i64 0, Value.int .i64 0, Value.int .i64 0, Value.int .i64 0, Value.int .i64 0, Value.slice none 0 0]) :=
  Y.build hp fun w => by simp [Instr.build, go_sem]
theorem cf10 : ∀ args w, (callFunc 10 args).run Try.prog w = .ok (.enter 10 args) w := fun _ _ => by simp [go_sem]
theorem cf11 : ∀ args w, (callFunc 11 args).run Try.prog w = .ok (.enter 11 args) w := fun _ _ => by simp [go_sem]
theorem cf12 : ∀ args w, (callFunc 12 args).run Try.prog w = .ok (.enter 12 args) w := fun _ _ => by simp [go_sem]

theorem long_b (kind from_ slo shi held hops : Int) (good ref : Bool) (elo ehi pulse time num : Int) (tab : List (Int × Int)) (A : Option Addr) (cap : Nat) (w0 w : World) (F0 : List Nat) (L G : List Res) (hst : St w0 F0 w L G) :
    Calls Try.prog 11 #[.agg #[.int .i64 kind, .int .i64 from_, .int .i64 slo, .int .i64 shi, .int .i64 held, .int .i64 hops, .bool good, .bool ref, .int .i64 elo, .int .i64 ehi, .int .i64 pulse, .int .i64 time, .int .i64 num, .slice A tab.length cap]] w fun e w' => ∃ b, e = .returned (.bool b) ∧ b = decide (1024 < (tab.length : Int)) ∧ St w0 F0 w' L G := by
  refine W.func Try.func11 rfl Try.ntmps11 rfl ?_
  refine W.seq rfl ?_
  refine W.region rfl ?_
  refine Ops.x rfl rfl rfl (X.boxA hst rfl ?_)
  clear hst; intro p1 w1 hst
  refine Ops.y rfl rfl rfl hst.ctx (Y.assignB rfl) ?_
  refine Ops.done rfl ?_
  refine W.seq rfl ?_
  refine W.region rfl ?_
  first
  | refine Ops.y rfl rfl rfl hst.ctx (Y.fieldAddr fa28_10 rfl) ?_
  | refine Ops.y rfl rfl rfl hst.ctx (Y.fieldAddrP fa28_10 rfl) ?_
  refine Ops.y rfl rfl rfl hst.ctx (Y.load 0 Try.isAgg26 rfl rfl rfl) ?_
  refine Ops.y rfl rfl rfl hst.ctx (Y.lenS Try.underlying26 rfl) ?_
  refine Ops.yb rfl rfl rfl hst.ctx (Y.gtr rfl rfl) (fun b6 hb6 => ?_)
  refine Ops.y rfl rfl rfl hst.ctx (Y.assignB rfl) ?_
  refine Ops.done rfl ?_
  refine W.ret rfl ?_
  refine ⟨_, Rslt.one Try.results11 rfl, ?_⟩
  exact ⟨_, rfl, by assumption, hst.drop⟩

set_option maxHeartbeats 1000000 in
theorem WireGood_walk (kind from_ slo shi held hops : Int) (good ref : Bool) (elo ehi pulse time num : Int) (tab : List (Int × Int)) (A : Option Addr) (cap : Nat) (w : World) (hs : Sl w (.slice A tab.length cap) tab.length (lcs tab)) (hlen : tab.length ≤ 9223372036854775807) (hwf : ∀ x ∈ tab, In64 x.1 ∧ In64 x.2) :
    Calls Try.prog 3 #[.agg #[.int .i64 kind, .int .i64 from_, .int .i64 slo, .int .i64 shi, .int .i64 held, .int .i64 hops, .bool good, .bool ref, .int .i64 elo, .int .i64 ehi, .int .i64 pulse, .int .i64 time, .int .i64 num, .slice A tab.length cap]] w fun e w' => e = .returned (.bool true) ∧ Below w.heap.size w w' := by
  have hst := (St.start w).arg hs
  have hr : Rds [] [slR (.slice A tab.length cap) tab.length (lcs tab)] (.slice A tab.length cap) tab.length (lcs tab) := Rds.slG 0 rfl
  refine W.func Try.func3 rfl Try.ntmps3 rfl ?_
  refine W.seq rfl ?_
  refine W.region rfl ?_
  refine Ops.x rfl rfl rfl (X.boxA hst rfl ?_)
  clear hst; intro p1 w1 hst
  refine Ops.y rfl rfl rfl hst.ctx (Y.assignB rfl) ?_
  refine Ops.done rfl ?_
  refine W.seq rfl ?_
  refine W.seq rfl ?_
  refine W.region rfl ?_
  refine Ops.y rfl rfl rfl hst.ctx (bd28_0 rfl) ?_
  refine Ops.x rfl rfl rfl (X.call cf10 rfl ?_)
  refine use_call (good_any _ _ _ _ _ _ _ _ _ _ _ _ _ [] none 0 _ _ _ _ _ hst (Rds.nilG _) (by simp) (by simp)) rfl ?_; rintro e w1 ⟨b4, rfl, hb4, hst⟩; refine ⟨_, rfl, ?_⟩
  cases b4
  · replace hb4 := of_decide_eq_false hb4.symm
    exact absurd ⟨by unfold HdOk Far; omega, by simp, fun k h => by simp at h⟩ hb4
  · replace hb4 := of_decide_eq_true hb4.symm
    refine Ops.y rfl rfl rfl hst.ctx (Y.not rfl) ?_
    refine Ops.y rfl rfl rfl hst.ctx (Y.moveB rfl) ?_
    refine Ops.y rfl rfl rfl hst.ctx (bd28_ rfl) ?_
    refine Ops.x rfl rfl rfl (X.call cf10 rfl ?_)
    refine use_call (good_any _ _ _ _ _ _ _ _ _ _ _ _ _ [] none 0 _ _ _ _ _ hst (Rds.nilG _) (by simp) (by simp)) rfl ?_; rintro e w1 ⟨b8, rfl, hb8, hst⟩; refine ⟨_, rfl, ?_⟩
    refine Ops.y rfl rfl rfl hst.ctx (Y.pick (.bool _) rfl rfl) ?_
    refine Ops.done rfl ?_
    cases b8
    · replace hb8 := of_decide_eq_false hb8.symm
      refine W.condF rfl rfl ?_
      refine W.skip rfl ?_
      refine W.seq rfl ?_
      refine W.drawn rfl (by kernel_rfl) (Ctx _ _ (_) (_)) [] (.op 0 0 (.op 1 1 (.op 2 0 (.op 3 0 (.op 5 0 (.op 4 1 (.op 6 1 (.op 7 0 (.op 8 0 (.op 9 0 (.op 10 0 (.op 12 0 (.op 13 0 (.op 11 1 (.op 14 1 (.op 15 0 (.op 16 0 (.op 17 0 (.op 18 0 .nil))))))))))))))))))) rfl (by kernel_rfl) hst.drew.ctx ?_
      replace hst := hst.drew
      generalize World.drew _ = wd at hst ⊢
      refine Drw.y rfl rfl rfl hst.ctx (Y.loadA 0 Try.isAgg28 Try.sizeOf28 rfl rfl rfl rfl) ?_
      refine Drw.x rfl rfl rfl (X.call cf11 rfl ?_)
      refine use_call (long_b _ _ _ _ _ _ _ _ _ _ _ _ _ tab _ _ _ _ _ _ _ hst) rfl ?_; rintro e w1 ⟨b11, rfl, hb11, hst⟩; refine ⟨_, rfl, ⟨hst.ctx, ?_⟩⟩
      refine Drw.y rfl rfl rfl hst.ctx (Y.moveB rfl) ?_
      cases b11
      · replace hb11 := of_decide_eq_false hb11.symm
        refine Drw.y rfl rfl rfl hst.ctx (Y.loadA 0 Try.isAgg28 Try.sizeOf28 rfl rfl rfl rfl) ?_
        refine Drw.y rfl rfl rfl hst.ctx (Y.loadA 0 Try.isAgg28 Try.sizeOf28 rfl rfl rfl rfl) ?_
        refine Drw.x rfl rfl rfl (X.call cf10 rfl ?_)
        refine use_call (good_any _ _ _ _ _ _ _ _ _ _ _ _ _ tab _ _ _ _ _ _ _ hst (hr.cons _) hlen hwf) rfl ?_; rintro e w1 ⟨b14, rfl, hb14, hst⟩; refine ⟨_, rfl, ⟨hst.ctx, ?_⟩⟩
        refine Drw.x rfl rfl rfl (X.call cf12 rfl ?_)
        refine use_call (rgood_any _ _ _ _ _ _ _ _ _ _ _ _ _ tab _ _ _ _ _ _ _ hst (hr.cons _) hlen hwf) rfl ?_; rintro e w1 ⟨b16, rfl, hb16, hst⟩; refine ⟨_, rfl, ⟨hst.ctx, ?_⟩⟩
        refine Drw.yb rfl rfl rfl hst.ctx (Y.eqB Try.underlying4 rfl rfl) (fun b17 hb17 => ?_)
        refine Drw.y rfl rfl rfl hst.ctx (Y.moveB rfl) ?_
        cases b17
        · replace hb17 := of_decide_eq_false hb17.symm
          exact absurd (hb14.trans hb16.symm) hb17
        · replace hb17 := of_decide_eq_true hb17.symm
          first
          | refine Drw.y rfl rfl rfl hst.ctx (Y.fieldAddr fa28_10 rfl) ?_
          | refine Drw.y rfl rfl rfl hst.ctx (Y.fieldAddrP fa28_10 rfl) ?_
          refine Drw.y rfl rfl rfl hst.ctx (Y.load 0 Try.isAgg26 rfl rfl rfl) ?_
          first
          | refine Drw.y rfl rfl rfl hst.ctx (Y.fieldAddr fa28_10 rfl) ?_
          | refine Drw.y rfl rfl rfl hst.ctx (Y.fieldAddrP fa28_10 rfl) ?_
          refine Drw.y rfl rfl rfl hst.ctx (Y.load 0 Try.isAgg26 rfl rfl rfl) ?_
          refine Drw.x rfl rfl rfl (X.call cf13 rfl ?_)
          refine use_call (table_b _ tab _ _ _ _ _ hst (hr.cons _) hlen hwf) rfl ?_; rintro e w1 ⟨b21, rfl, hb21, hst⟩; refine ⟨_, rfl, ⟨hst.ctx, ?_⟩⟩
          refine Drw.x rfl rfl rfl (X.call cf14 rfl ?_)
          refine use_call (rtable_b _ tab _ _ _ _ _ hst (hr.cons _) hlen hwf) rfl ?_; rintro e w1 ⟨b24, rfl, hb24, hst⟩; refine ⟨_, rfl, ⟨hst.ctx, ?_⟩⟩
          refine Drw.yb rfl rfl rfl hst.ctx (Y.eqB Try.underlying4 rfl rfl) (fun b25 hb25 => ?_)
          refine Drw.y rfl rfl rfl hst.ctx (Y.pick (.bool _) rfl rfl) ?_
          refine Drw.y rfl rfl rfl hst.ctx (Y.pick (.bool _) rfl rfl) ?_
          refine Drw.y rfl rfl rfl hst.ctx (Y.assignB rfl) ?_
          refine Drw.done ?_
          refine W.ret rfl ?_
          cases b25
          · replace hb25 := of_decide_eq_false hb25.symm
            exact absurd (hb21.trans hb24.symm) hb25
          · replace hb25 := of_decide_eq_true hb25.symm
            refine ⟨_, Rslt.one Try.results3 rfl, ?_⟩
            exact ⟨rfl, hst.drop.below⟩
      · replace hb11 := of_decide_eq_true hb11.symm
        refine Drw.no rfl rfl rfl hst.ctx ?_
        refine Drw.no rfl rfl rfl hst.ctx ?_
        refine Drw.noX rfl rfl rfl hst.ctx ?_
        refine Drw.noX rfl rfl rfl hst.ctx ?_
        refine Drw.no rfl rfl rfl hst.ctx ?_
        refine Drw.no rfl rfl rfl hst.ctx ?_
        refine Drw.no rfl rfl rfl hst.ctx ?_
        refine Drw.no rfl rfl rfl hst.ctx ?_
        refine Drw.no rfl rfl rfl hst.ctx ?_
        refine Drw.no rfl rfl rfl hst.ctx ?_
        refine Drw.noX rfl rfl rfl hst.ctx ?_
        refine Drw.noX rfl rfl rfl hst.ctx ?_
        refine Drw.no rfl rfl rfl hst.ctx ?_
        refine Drw.no rfl rfl rfl hst.ctx ?_
        refine Drw.y rfl rfl rfl hst.ctx (Y.pick (.bool _) rfl rfl) ?_
        refine Drw.y rfl rfl rfl hst.ctx (Y.assignB rfl) ?_
        refine Drw.done ?_
        refine W.ret rfl ?_
        refine ⟨_, Rslt.one Try.results3 rfl, ?_⟩
        exact ⟨rfl, hst.drop.below⟩
    · replace hb8 := of_decide_eq_true hb8.symm
      exact absurd hb8.1 (by unfold HdOk; omega)
end Go.Proofs.Ytkbkgpedpaodlaa.W
