/- Open in one word. -/
import Derived.Test.YtkbkgpedpaodlaaWI
set_option linter.unusedVariables false
set_option linter.unusedSimpArgs false
namespace Go.Proofs.Ytkbkgpedpaodlaa.W
open Go.RowKit Go.Proofs.Ytkbkgpedpaodlaa.K Go.Proofs.Ytkbkgpedpaodlaa.CM
theorem four_of {l : List UInt8} (h : l.length = 4) : ∃ a b c d, l = [a, b, c, d] := by
  match l, h with
  | [a, b, c, d], _ => exact ⟨a, b, c, d, rfl⟩
theorem open_any (v : Value) (l : List UInt8) (w0 w : World) (F0 : List Nat) (L G : List Res) (hst : St w0 F0 w L G) (h : Rds L G v l.length (bvs l)) (hl : l.length ≤ 1000000) :
    Calls Try.prog 30 #[v] w fun e w' => ∃ u, ∃ b, e = .returned (.tuple #[u, .bool b]) ∧ b = decide (opn l ≠ none) ∧ St w0 F0 w' (rowR u 5 1 ((opn l).getD []).length (bvs ((opn l).getD [])) :: L) G := by
  by_cases h4 : l.length < 4
  · refine (CW.open_short v l w0 w F0 L G hst h h4).mono ?_
    rintro e w' ⟨rfl, hst⟩
    have e : opn l = none := by unfold opn; rw [if_pos h4]
    rw [e]
    exact ⟨_, false, rfl, by simp, hst.nilRow 5 1⟩
  · have hd : (l.drop (l.length - 4)).length = 4 := by rw [List.length_drop]; omega
    have htl : (l.take (l.length - 4)).length = l.length - 4 := by rw [List.length_take]; omega
    have hsp : l.take (l.length - 4) ++ l.drop (l.length - 4) = l := List.take_append_drop _ _
    by_cases hs : l.drop (l.length - 4) = le4 (crc (l.take (l.length - 4)))
    · have e : opn l = some (l.take (l.length - 4)) := by unfold opn; rw [if_neg h4, if_pos hs]
      have hse : sealed (l.take (l.length - 4)) = l := by unfold sealed; rw [← hs]; exact hsp
      refine (CW.open_yes v (l.take (l.length - 4)) w0 w F0 L G hst (by rw [hse, htl, show l.length - 4 + 4 = l.length by omega]; exact h) (by omega)).mono ?_
      rintro e w' ⟨u, rfl, hst⟩
      rw [e]
      exact ⟨u, true, rfl, by simp, hst⟩
    · have e : opn l = none := by unfold opn; rw [if_neg h4, if_neg hs]
      obtain ⟨s0, s1, s2, s3, h5⟩ := four_of hd
      rw [h5] at hs hsp
      refine (CW.open_no v (l.take (l.length - 4)) s0 s1 s2 s3 w0 w F0 L G hst (by rw [hsp, htl, show l.length - 4 + 4 = l.length by omega]; exact h) (by omega) hs).mono ?_
      rintro e w' ⟨rfl, hst⟩
      rw [e]
      exact ⟨_, false, rfl, by simp, hst.nilRow 5 1⟩
end Go.Proofs.Ytkbkgpedpaodlaa.W
