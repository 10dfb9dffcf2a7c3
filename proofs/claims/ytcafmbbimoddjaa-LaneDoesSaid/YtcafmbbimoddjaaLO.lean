/- Scripts and lists of strings that came in, opened. -/
import Derived.Test.YtcafmbbimoddjaaLE
import Derived.Deep.Slices
import Derived.Deep.Fields
import Derived.ChangeSame
import Derived.ChangeArms
set_option linter.unusedVariables false
set_option linter.unusedSimpArgs false
namespace Go.Proofs.Ytcafmbbimoddjaa.LN
open Go.RowKit Go.Proofs.Ytcafmbbimoddjaa.K
open Go.ChangeShapes Go.WideShapes Go.Deep
section
variable {H : Type} {enc : TypeId × Value → H} {w : World} {base : Nat} {held : Bool}
theorem kInt : Try.prog.cellsOf 3 = 1 := by kernel_rfl
theorem kStr : Try.prog.cellsOf 9 = 1 := by kernel_rfl
theorem kCall : Try.prog.cellsOf 28 = 4 := by kernel_rfl
theorem call_of {spare : Nat → Bool} {fuel : Nat} {c0 c1 c2 c3 : Value} {x : DataW H × List MemPlace} (h : DataW.trod enc Try.prog w base spare held fuel 28 [c0, c1, c2, c3] = some x) :
    ∃ c : Cl, [c0, c1, c2, c3] = clc c := by
  obtain ⟨xs, n, _, _, _, hl, hg⟩ := DataW.trod_struct Try.underlying28 h
  have hl : xs.length = 4 := by simpa using hl
  have g0 : DataW.trod enc Try.prog w base spare held n 3 ((([c0, c1, c2, c3] : List Value).drop 0).take (Try.prog.cellsOf 3)) = xs[0]? := hg 0 _ rfl
  have g1 : DataW.trod enc Try.prog w base spare held n 3 ((([c0, c1, c2, c3] : List Value).drop 1).take (Try.prog.cellsOf 3)) = xs[1]? := hg 1 _ rfl
  have g2 : DataW.trod enc Try.prog w base spare held n 3 ((([c0, c1, c2, c3] : List Value).drop 2).take (Try.prog.cellsOf 3)) = xs[2]? := hg 2 _ rfl
  have g3 : DataW.trod enc Try.prog w base spare held n 9 ((([c0, c1, c2, c3] : List Value).drop 3).take (Try.prog.cellsOf 9)) = xs[3]? := hg 3 _ rfl
  rw [kInt, List.getElem?_eq_getElem (by omega)] at g0 g1 g2
  rw [kStr, List.getElem?_eq_getElem (by omega)] at g3
  obtain ⟨n0, e0', _, _⟩ := DataW.trod_int Try.underlying3 g0
  obtain ⟨n1, e1, _, _⟩ := DataW.trod_int Try.underlying3 g1
  obtain ⟨n2, e2, _, _⟩ := DataW.trod_int Try.underlying3 g2
  obtain ⟨s3, e3, _⟩ := DataW.trod_string Try.underlying9 g3
  simp at e0' e1 e2 e3
  exact ⟨⟨n0, n1, n2, s3⟩, by rw [e0', e1, e2, e3]⟩
theorem scr_of {r : Reach} {b0 : Nat} {spare : Nat → Bool} (hsp : ∀ b, spare b = true) {v : Value} {d : DataW H} {p : List MemPlace} (hv : Value.okWide Try.prog w r b0 22 v) (h : DataW.Trod enc Try.prog w base spare held 22 v d p) :
    ∃ l : List Cl, Sl w v l.length (ccs l) ∧ l.length ≤ 9223372036854775807 := by
  obtain ⟨A, len, cap, rfl⟩ := okWide_slice Try.underlying22 hv
  obtain ⟨fuel, h⟩ := h
  rcases open_slice Try.underlying22 h with ⟨hc, _⟩ | ⟨a, len', cap', m, n, D, Pl, hc, _, hl, hm, hmm, _, hi⟩
  · simp [Value.cells] at hc
    obtain ⟨rfl, rfl, rfl⟩ := hc
    exact ⟨[], Sl.nil w, by simp⟩
  · simp [Value.cells] at hc
    obtain ⟨rfl, rfl, rfl⟩ := hc
    rw [hsp, if_pos rfl] at hmm
    subst hmm
    have HH : ∀ i, i < len → ∃ c : Cl, ∀ j, j < 4 → w.cell? (a.add (i * 4 + j)) = (clc c)[j]? := by
      intro i hlt
      obtain ⟨cs, hcs, ht⟩ := hi i (by omega)
      rw [kCall] at hcs
      obtain ⟨_, hcl, hat⟩ := World.cells?_some hcs
      match cs, hcl with
      | [c0, c1, c2, c3], _ =>
        obtain ⟨c, hc⟩ := call_of ht
        refine ⟨c, fun j hj => ?_⟩
        have := hat j (by omega)
        rw [K.add_add] at this
        rw [this, hc]
    let f : Nat → Cl := fun i => if h : i < len then Classical.choose (HH i h) else cl0
    have hf : ∀ i, i < len → ∀ j, j < 4 → w.cell? (a.add (i * 4 + j)) = (clc (f i))[j]? := by
      intro i hlt
      have := Classical.choose_spec (HH i hlt)
      simp only [f, hlt, dif_pos]
      exact this
    have hlen : ((List.range len).map f).length = len := by simp
    refine ⟨(List.range len).map f, ?_, by rw [hlen]; unfold maxLen at hm; omega⟩
    rw [hlen]
    refine ⟨_, _, rfl, hl, fun _ => ⟨a, rfl, fun j hj => ?_⟩⟩
    rw [ccs_length, hlen] at hj
    have hd := hf (j / 4) (by omega) (j % 4) (by omega)
    rw [show j / 4 * 4 + j % 4 = j by omega] at hd
    have hz := ccs_at ((List.range len).map f) (j / 4) (by rw [hlen]; omega)
    rw [Int.toNat_natCast] at hz
    have hget : ((List.range len).map f).getD (j / 4) cl0 = f (j / 4) := by
      rw [List.getD_eq_getElem?_getD, List.getElem?_map, List.getElem?_range (by omega)]; rfl
    rw [hget] at hz
    rw [hd, ← hz, List.getElem?_take, if_pos (by omega), List.getElem?_drop, show j / 4 * 4 + j % 4 = j by omega]
end
end Go.Proofs.Ytcafmbbimoddjaa.LN
