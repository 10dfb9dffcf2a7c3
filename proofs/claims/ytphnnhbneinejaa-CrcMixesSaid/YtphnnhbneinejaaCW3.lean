/- The walk of CrcPieces. -/
import Derived.Test.YtphnnhbneinejaaCW2
set_option linter.unusedVariables false
set_option linter.unusedSimpArgs false
namespace Go.Proofs.Ytphnnhbneinejaa.CW
open Go.RowKit Go.Proofs.Ytphnnhbneinejaa.K Go.Proofs.Ytphnnhbneinejaa.CM

theorem pieces_more (a b : List UInt8) : more (crc a) b = crc (a ++ b) := by
  unfold crc
  rw [← more_append]

theorem add_size {a b : List UInt8} : str a ++ str b = str (a ++ b) := by
  cases h : (str a ++ str b)
  rename_i d
  have : (str a ++ str b).data = (str (a ++ b)).data := by simp [str]
  rw [h] at this
  simp at this
  rw [this]

set_option maxHeartbeats 4000000 in
theorem CrcPieces_walk (v1 v2 v3 : Value) (l1 l2 l3 : List UInt8) (w : World) (h1 : Sl w v1 l1.length (bvs l1)) (h2 : Sl w v2 l2.length (bvs l2)) (h3 : Sl w v3 l3.length (bvs l3))
    (m1 : l1.length ≤ 9223372036854775807) (m2 : l2.length ≤ 9223372036854775807) (m3 : l3.length ≤ 9223372036854775807) :
    Calls Try.prog 4 #[v1, v2, v3] w fun e w' => e = .returned (.bool true) ∧ Below w.heap.size w w' := by
  have hst := (((St.start w).arg h3).arg h2).arg h1
  obtain ⟨A1, c1, rfl, -, -⟩ := h1
  obtain ⟨A2, c2, rfl, -, -⟩ := h2
  obtain ⟨A3, c3, rfl, -, -⟩ := h3
  by_cases g1 : l1.length ≤ 8192
  · have d1 : decide (8192 < (l1.length : Int)) = false := by simp; omega
    by_cases g2 : l2.length ≤ 8192
    · have d2 : decide (8192 < (l2.length : Int)) = false := by simp; omega
      by_cases g3 : l3.length ≤ 8192
      · have d3 : decide (8192 < (l3.length : Int)) = false := by simp; omega
        have s1 : (str l1 ++ str l2) = str (l1 ++ l2) := add_size
        have s2 : (str (l1 ++ l2) ++ str l3) = str (l1 ++ l2 ++ l3) := add_size
        have hs1 := Lib.hid s1
        have hs2 := Lib.hid s2
        clear s1 s2
        have hp := Lib.hid (pieces_more l1 l2)
        have hf : [l1, l2, l3].flatten = l1 ++ l2 ++ l3 := by simp
        have hf' := Lib.hid hf
        clear hf
        go_enter Try.func4, Try.ntmps4
        go_wp2_with (first
          | (refine wpList_opK ?_
             first
             | (refine r_lit1 hst (by rfl) rfl Try.underlying38 rfl (fun _ => Try.sizeOf22 _) rfl (fun _ => Try.zeroValue22 _) (by decide) ?_; clear hst; intro b1 w1 hst; try simp only [Act.eval, Act.put, List.setIfInBounds_toArray, List.set_cons_zero, List.set_cons_succ, Array.getD_eq_getD_getElem?, List.getElem?_toArray, List.getElem?_cons_zero, List.getElem?_cons_succ, Option.getD_some, Value.cells, List.toList_toArray] at hst ⊢)
             | (refine r_lits hst (by rfl) rfl (vs := [.slice A1 l1.length c1, .slice A2 l2.length c2, .slice A3 l3.length c3]) rfl rfl rfl Try.underlying38 (fun _ => Try.sizeOf22 _) (fun _ => Try.zeroValue22 _) (by decide) ?_; clear hst; intro b3 w1 hst; try simp only [Act.eval, Act.put, List.setIfInBounds_toArray, List.set_cons_zero, List.set_cons_succ, Array.getD_eq_getD_getElem?, List.getElem?_toArray, List.getElem?_cons_zero, List.getElem?_cons_succ, Option.getD_some, Value.cells, List.toList_toArray] at hst ⊢)
             | (refine r_lits hst (by rfl) rfl (vs := [.slice A1 l1.length c1, .slice A2 l2.length c2]) rfl rfl rfl Try.underlying38 (fun _ => Try.sizeOf22 _) (fun _ => Try.zeroValue22 _) (by decide) ?_; clear hst; intro b2 w1 hst; try simp only [Act.eval, Act.put, List.setIfInBounds_toArray, List.set_cons_zero, List.set_cons_succ, Array.getD_eq_getD_getElem?, List.getElem?_toArray, List.getElem?_cons_zero, List.getElem?_cons_succ, Option.getD_some, Value.cells, List.toList_toArray] at hst ⊢)
             | refine r_str hst (by rfl) rfl Try.underlying22 Try.underlying5 Try.underlying9 rfl (Rds.slG 0 rfl) rfl ?_
             | refine r_str hst (by rfl) rfl Try.underlying22 Try.underlying5 Try.underlying9 rfl (Rds.slG 1 rfl) rfl ?_
             | refine r_str hst (by rfl) rfl Try.underlying22 Try.underlying5 Try.underlying9 rfl (Rds.slG 2 rfl) rfl ?_)
          | (go_at_call 9; refine use_call (alive_any _ _ _ _ _ hst) rfl ?_; clear hst; rintro e w1 ⟨rfl, hst⟩)
          | (go_at_call 10
             first
             | (refine use_call (sum_any (.slice (some ⟨b3, 0, none⟩) 3 3) [.slice A1 l1.length c1, .slice A2 l2.length c2, .slice A3 l3.length c3] [l1, l2, l3] _ ((Rds.ofCells 0 rfl 3 3).sl hst) ⟨⟨(Rds.slG 0 rfl).sl hst, by omega⟩, ⟨(Rds.slG 1 rfl).sl hst, by omega⟩, ⟨(Rds.slG 2 rfl).sl hst, by omega⟩, trivial⟩ (by simp)) rfl ?_
                rintro e w' ⟨rfl, rfl⟩; rw [hf'.out])
             | (refine use_call (sum_any (.slice (some ⟨b1, 0, none⟩) 1 1) [.slice A1 l1.length c1] [l1] _ ((Rds.ofCells 0 rfl 1 1).sl hst) ⟨⟨(Rds.slG 0 rfl).sl hst, by omega⟩, trivial⟩ (by simp)) rfl ?_
                rintro e w' ⟨rfl, rfl⟩)
             | (refine use_call (sum_any (.slice (some ⟨b2, 0, none⟩) 2 2) [.slice A1 l1.length c1, .slice A2 l2.length c2] [l1, l2] _ ((Rds.ofCells 0 rfl 2 2).sl hst) ⟨⟨(Rds.slG 0 rfl).sl hst, by omega⟩, ⟨(Rds.slG 1 rfl).sl hst, by omega⟩, trivial⟩ (by simp)) rfl ?_
                rintro e w' ⟨rfl, rfl⟩))
          | (go_at_call 11; simp only [hs1.out, hs2.out]; refine use_call (refsum_any (str (l1 ++ l2 ++ l3)) _ (by simp; omega)) rfl ?_; rintro e w' ⟨rfl, rfl⟩)
          | (go_at_call 12; refine use_call (more_any (crc l1) (.slice A2 l2.length c2) l2 _ ((Rds.slG 1 rfl).sl hst) (by omega)) rfl ?_; rintro e w' ⟨rfl, rfl⟩; rw [hp.out]))
        go_ret
        exact ⟨by simp, hst.below⟩
      · have d3 : decide (8192 < (l3.length : Int)) = true := by simp; omega
        go_enter Try.func4, Try.ntmps4
        go_wp2_with (go_at_call 9; refine use_call (alive_any _ _ _ _ _ hst) rfl ?_; clear hst; rintro e w1 ⟨rfl, hst⟩)
        go_ret
        exact ⟨by simp, hst.below⟩
    · have d2 : decide (8192 < (l2.length : Int)) = true := by simp; omega
      go_enter Try.func4, Try.ntmps4
      go_wp2_with (go_at_call 9; refine use_call (alive_any _ _ _ _ _ hst) rfl ?_; clear hst; rintro e w1 ⟨rfl, hst⟩)
      go_ret
      exact ⟨by simp, hst.below⟩
  · have d1 : decide (8192 < (l1.length : Int)) = true := by simp; omega
    go_enter Try.func4, Try.ntmps4
    go_wp2_with (go_at_call 9; refine use_call (alive_any _ _ _ _ _ hst) rfl ?_; clear hst; rintro e w1 ⟨rfl, hst⟩)
    go_ret
    exact ⟨by simp, hst.below⟩
end Go.Proofs.Ytphnnhbneinejaa.CW
