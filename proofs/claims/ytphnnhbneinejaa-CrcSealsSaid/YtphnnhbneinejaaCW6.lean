/- The walk of CrcSeals. -/
import Derived.Test.YtphnnhbneinejaaCW5
set_option linter.unusedVariables false
set_option linter.unusedSimpArgs false
namespace Go.Proofs.Ytphnnhbneinejaa.CW
open Go.RowKit Go.Proofs.Ytphnnhbneinejaa.K Go.Proofs.Ytphnnhbneinejaa.CM
attribute [local irreducible] iv crc more reg turns

theorem Rds.nil {L G : List Res} {r : Res} (h : r ∈ L ∨ r ∈ G) : Rds L G (.slice none 0 0) 0 (bvs []) := ⟨r, h, fun w _ => Sl.nil w⟩

/-- A list of bytes has a tail of four, or is shorter. -/
theorem tail_of (l : List UInt8) : l.length < 4 ∨ ∃ p s0 s1 s2 s3, l = p ++ [s0, s1, s2, s3] := by
  by_cases h : l.length < 4
  · exact .inl h
  · right
    have h1 : (l.drop (l.length - 4)).length = 4 := by simp; omega
    match h2 : l.drop (l.length - 4), h1 with
    | [s0, s1, s2, s3], _ => exact ⟨l.take (l.length - 4), s0, s1, s2, s3, by rw [← h2, List.take_append_drop]⟩

set_option maxHeartbeats 8000000 in
theorem CrcSeals_walk (v : Value) (l : List UInt8) (w : World) (h : Sl w v l.length (bvs l)) (hm : l.length ≤ 9223372036854775807) :
    Calls Try.prog 6 #[v] w fun e w' => e = .returned (.bool true) ∧ Below w.heap.size w w' := by
  have hst := (St.start w).arg h
  obtain ⟨A, c, rfl, -, -⟩ := h
  by_cases hlen : l.length ≤ 16384
  · have hl : l.length ≤ 140737488355320 := by omega
    have hd : decide (16384 < (l.length : Int)) = false := by simp; omega
    have hsl := sealed_length l
    have hsl' := Lib.hid hsl
    clear hsl
    rcases tail_of l with h4 | ⟨p, s0, s1, s2, s3, hp⟩
    · go_enter Try.func6, Try.ntmps6
      go_wp2_with (first
        | (go_at_call 9; refine use_call (alive_any _ _ _ _ _ hst) rfl ?_; clear hst; rintro e w1 ⟨rfl, hst⟩)
        | (go_at_call 13; refine use_call (seal_any (.slice A l.length c) l _ _ _ _ _ hst (Rds.slG 0 rfl) hl) rfl ?_; clear hst; rintro e w1 ⟨b1, rfl, hst⟩)
        | (go_at_call 14
           first
           | (refine use_call (open_yes (.slice (some ⟨b1, 0, none⟩) (l.length + 4) (l.length + 4)) l _ _ _ _ _ hst (Rds.ofCells 0 rfl _ _) hl) rfl ?_; clear hst; rintro e w1 ⟨u, rfl, hst⟩)
           | (refine use_call (open_short (.slice A l.length c) l _ _ _ _ _ hst (Rds.slG 0 rfl) h4) rfl ?_; clear hst; rintro e w1 ⟨rfl, hst⟩))
        | (refine wpList_opK ?_; refine r_str hst (by rfl) rfl Try.underlying22 Try.underlying5 Try.underlying9 rfl (Rds.slG 0 rfl) rfl ?_)
        | (go_at_call 15; refine use_call (refopen_short l _ _ _ _ _ hst h4) rfl ?_; clear hst; rintro e w1 ⟨rfl, hst⟩))
      refine wp_region_held_drew (S := Ctx _ _ ([rowR u 5 1 l.length (bvs l), cellsR b1 (bvs (sealed l)) 5]) ([slR (.slice A l.length c) l.length (bvs l)])) (by kernel_rfl) ⟨[], [], hst.drew⟩ (fun hHeld => ?_)
      replace hst := hst.drew
      generalize World.drew _ = wd at hst hHeld ⊢; clear hHeld
      refine takeL 0 rfl (v := ?_) (by kernel_rfl) (by kernel_rfl) (by kernel_rfl) (by exact fun _ _ _ h => h) (Or.inl ⟨by rfl, ?_⟩) ⟨[], [], hst⟩ ?_
      rotate_left 1
      · intro w' hSw; go_simp; try with_reducible rfl
      try simp only [Act.put, List.setIfInBounds_toArray, List.set_cons_zero, List.set_cons_succ]
      refine takeL 1 rfl (by kernel_rfl) (by kernel_rfl) (by kernel_rfl) (by exact fun _ _ _ h => h) (y_str (by rfl) rfl Try.underlying22 Try.underlying5 Try.underlying9 rfl (l := sealed l) (Rds.ofCells 1 rfl _ _) (by rw [sealed_length])) ⟨[], [], hst⟩ ?_
      try simp only [Act.put, List.setIfInBounds_toArray, List.set_cons_zero, List.set_cons_succ]
      refine takeL 2 rfl (v := ?_) (by kernel_rfl) (by kernel_rfl) (by kernel_rfl) (by exact fun _ _ _ h => h) (Or.inl ⟨by rfl, ?_⟩) ⟨[], [], hst⟩ ?_
      rotate_left 1
      · intro w' hSw; go_simp; try with_reducible rfl
      try simp only [Act.put, List.setIfInBounds_toArray, List.set_cons_zero, List.set_cons_succ]
      refine takeL 3 rfl (by kernel_rfl) (by kernel_rfl) (by kernel_rfl) (by exact fun _ _ _ h => h) (y_str (by rfl) rfl Try.underlying22 Try.underlying5 Try.underlying9 rfl (Rds.slG 0 rfl) rfl) ⟨[], [], hst⟩ ?_
      try simp only [Act.put, List.setIfInBounds_toArray, List.set_cons_zero, List.set_cons_succ]
      refine nextL 4 rfl (by kernel_rfl) (fun K hK => ?_)
      go_simp
      refine use_call (refseal_any l _ _ _ _ _ hst (by omega)) (by simp [Act.eval]) ?_
      clear hst; rintro e w' ⟨rfl, hst⟩
      refine hK.out _ _ ⟨[], [], hst⟩ (fun _ => ?_); clear hK K
      try simp only [Act.put, List.setIfInBounds_toArray, List.set_cons_zero, List.set_cons_succ]
      refine takeL 5 rfl (v := ?_) (by kernel_rfl) (by kernel_rfl) (by kernel_rfl) (by exact fun _ _ _ h => h) (Or.inl ⟨by rfl, ?_⟩) ⟨[], [], hst⟩ ?_
      rotate_left 1
      · intro w' hSw; go_simp; try with_reducible rfl
      try simp only [Act.put, List.setIfInBounds_toArray, List.set_cons_zero, List.set_cons_succ]
      refine takeL 6 rfl (v := ?_) (by kernel_rfl) (by kernel_rfl) (by kernel_rfl) (by exact fun _ _ _ h => h) (Or.inl ⟨by rfl, ?_⟩) ⟨[], [], hst⟩ ?_
      rotate_left 1
      · intro w' hSw; go_simp; try with_reducible rfl
      try simp only [Act.put, List.setIfInBounds_toArray, List.set_cons_zero, List.set_cons_succ]
      refine takeL 7 rfl (v := ?_) (by kernel_rfl) (by kernel_rfl) (by kernel_rfl) (by exact fun _ _ _ h => h) (Or.inl ⟨by rfl, ?_⟩) ⟨[], [], hst⟩ ?_
      rotate_left 1
      · intro w' hSw; go_simp; try with_reducible rfl
      try simp only [Act.put, List.setIfInBounds_toArray, List.set_cons_zero, List.set_cons_succ]
      refine takeL 8 rfl (v := ?_) (by kernel_rfl) (by kernel_rfl) (by kernel_rfl) (by exact fun _ _ _ h => h) (Or.inl ⟨by rfl, ?_⟩) ⟨[], [], hst⟩ ?_
      rotate_left 1
      · intro w' hSw; go_simp; try with_reducible rfl
      try simp only [Act.put, List.setIfInBounds_toArray, List.set_cons_zero, List.set_cons_succ]
      refine takeL 9 rfl (v := ?_) (by kernel_rfl) (by kernel_rfl) (by kernel_rfl) (by exact fun _ _ _ h => h) (Or.inl ⟨by rfl, ?_⟩) ⟨[], [], hst⟩ ?_
      rotate_left 1
      · intro w' hSw; go_simp; try with_reducible rfl
      try simp only [Act.put, List.setIfInBounds_toArray, List.set_cons_zero, List.set_cons_succ]
      refine takeL 10 rfl (v := ?_) (by kernel_rfl) (by kernel_rfl) (by kernel_rfl) (by exact fun _ _ _ h => h) (Or.inl ⟨by rfl, ?_⟩) ⟨[], [], hst⟩ ?_
      rotate_left 1
      · intro w' hSw; go_simp; try with_reducible rfl
      try simp only [Act.put, List.setIfInBounds_toArray, List.set_cons_zero, List.set_cons_succ]
      refine takeL 11 rfl (by kernel_rfl) (by kernel_rfl) (by kernel_rfl) (by exact fun _ _ _ h => h) (y_str (by rfl) rfl Try.underlying22 Try.underlying5 Try.underlying9 rfl (l := l) (Rds.rowL 0 rfl) rfl) ⟨[], [], hst⟩ ?_
      try simp only [Act.put, List.setIfInBounds_toArray, List.set_cons_zero, List.set_cons_succ]
      refine takeL 12 rfl (v := ?_) (by kernel_rfl) (by kernel_rfl) (by kernel_rfl) (by exact fun _ _ _ h => h) (Or.inl ⟨by rfl, ?_⟩) ⟨[], [], hst⟩ ?_
      rotate_left 1
      · intro w' hSw; go_simp; try with_reducible rfl
      try simp only [Act.put, List.setIfInBounds_toArray, List.set_cons_zero, List.set_cons_succ]
      refine takeL 13 rfl (by kernel_rfl) (by kernel_rfl) (by kernel_rfl) (by exact fun _ _ _ h => h) (y_str (by rfl) rfl Try.underlying22 Try.underlying5 Try.underlying9 rfl (Rds.slG 0 rfl) rfl) ⟨[], [], hst⟩ ?_
      try simp only [Act.put, List.setIfInBounds_toArray, List.set_cons_zero, List.set_cons_succ]
      refine takeL 14 rfl (v := ?_) (by kernel_rfl) (by kernel_rfl) (by kernel_rfl) (by exact fun _ _ _ h => h) (Or.inl ⟨by rfl, ?_⟩) ⟨[], [], hst⟩ ?_
      rotate_left 1
      · intro w' hSw; go_simp; try with_reducible rfl
      try simp only [Act.put, List.setIfInBounds_toArray, List.set_cons_zero, List.set_cons_succ]
      refine takeL 15 rfl (v := ?_) (by kernel_rfl) (by kernel_rfl) (by kernel_rfl) (by exact fun _ _ _ h => h) (Or.inl ⟨by rfl, ?_⟩) ⟨[], [], hst⟩ ?_
      rotate_left 1
      · intro w' hSw; go_simp; try with_reducible rfl
      try simp only [Act.put, List.setIfInBounds_toArray, List.set_cons_zero, List.set_cons_succ]
      refine takeL 16 rfl (v := ?_) (by kernel_rfl) (by kernel_rfl) (by kernel_rfl) (by exact fun _ _ _ h => h) (Or.inl ⟨by rfl, ?_⟩) ⟨[], [], hst⟩ ?_
      rotate_left 1
      · intro w' hSw; go_simp; try with_reducible rfl
      try simp only [Act.put, List.setIfInBounds_toArray, List.set_cons_zero, List.set_cons_succ]
      refine takeL 17 rfl (v := ?_) (by kernel_rfl) (by kernel_rfl) (by kernel_rfl) (by exact fun _ _ _ h => h) (Or.inl ⟨by rfl, ?_⟩) ⟨[], [], hst⟩ ?_
      rotate_left 1
      · intro w' hSw; go_simp; try with_reducible rfl
      try simp only [Act.put, List.setIfInBounds_toArray, List.set_cons_zero, List.set_cons_succ]
      refine takeL 18 rfl (v := ?_) (by kernel_rfl) (by kernel_rfl) (by kernel_rfl) (by exact fun _ _ _ h => h) (Or.inl ⟨by rfl, ?_⟩) ⟨[], [], hst⟩ ?_
      rotate_left 1
      · intro w' hSw; go_simp; try with_reducible rfl
      try simp only [Act.put, List.setIfInBounds_toArray, List.set_cons_zero, List.set_cons_succ]
      refine takeL 19 rfl (v := ?_) (by kernel_rfl) (by kernel_rfl) (by kernel_rfl) (by exact fun _ _ _ h => h) (Or.inl ⟨by rfl, ?_⟩) ⟨[], [], hst⟩ ?_
      rotate_left 1
      · intro w' hSw; go_simp; try with_reducible rfl
      try simp only [Act.put, List.setIfInBounds_toArray, List.set_cons_zero, List.set_cons_succ]
      refine takeL 20 rfl (v := ?_) (by kernel_rfl) (by kernel_rfl) (by kernel_rfl) (by exact fun _ _ _ h => h) (Or.inl ⟨by rfl, ?_⟩) ⟨[], [], hst⟩ ?_
      rotate_left 1
      · intro w' hSw; go_simp; try with_reducible rfl
      try simp only [Act.put, List.setIfInBounds_toArray, List.set_cons_zero, List.set_cons_succ]
      refine takeL 21 rfl (v := ?_) (by kernel_rfl) (by kernel_rfl) (by kernel_rfl) (by exact fun _ _ _ h => h) (Or.inl ⟨by rfl, ?_⟩) ⟨[], [], hst⟩ ?_
      rotate_left 1
      · intro w' hSw; go_simp; try with_reducible rfl
      try simp only [Act.put, List.setIfInBounds_toArray, List.set_cons_zero, List.set_cons_succ]
      refine takeL 22 rfl (v := ?_) (by kernel_rfl) (by kernel_rfl) (by kernel_rfl) (by exact fun _ _ _ h => h) (Or.inl ⟨by rfl, ?_⟩) ⟨[], [], hst⟩ ?_
      rotate_left 1
      · intro w' hSw; go_simp; try with_reducible rfl
      try simp only [Act.put, List.setIfInBounds_toArray, List.set_cons_zero, List.set_cons_succ]
      refine takeL 23 rfl (by kernel_rfl) (by kernel_rfl) (by kernel_rfl) (by exact fun _ _ _ h => h) (y_str (by rfl) rfl Try.underlying22 Try.underlying5 Try.underlying9 rfl (v := .slice none 0 0) (l := []) (n := 0) (Rds.nil (.inr (List.mem_cons_self ..))) rfl) ⟨[], [], hst⟩ ?_
      try simp only [Act.put, List.setIfInBounds_toArray, List.set_cons_zero, List.set_cons_succ]
      refine takeL 24 rfl (v := ?_) (by kernel_rfl) (by kernel_rfl) (by kernel_rfl) (by exact fun _ _ _ h => h) (Or.inl ⟨by rfl, ?_⟩) ⟨[], [], hst⟩ ?_
      rotate_left 1
      · intro w' hSw; go_simp; try with_reducible rfl
      try simp only [Act.put, List.setIfInBounds_toArray, List.set_cons_zero, List.set_cons_succ]
      refine takeL 25 rfl (v := ?_) (by kernel_rfl) (by kernel_rfl) (by kernel_rfl) (by exact fun _ _ _ h => h) (Or.inl ⟨by rfl, ?_⟩) ⟨[], [], hst⟩ ?_
      rotate_left 1
      · intro w' hSw; go_simp; try with_reducible rfl
      try simp only [Act.put, List.setIfInBounds_toArray, List.set_cons_zero, List.set_cons_succ]
      refine takeL 26 rfl (v := ?_) (by kernel_rfl) (by kernel_rfl) (by kernel_rfl) (by exact fun _ _ _ h => h) (Or.inl ⟨by rfl, ?_⟩) ⟨[], [], hst⟩ ?_
      rotate_left 1
      · intro w' hSw; go_simp; try with_reducible rfl
      try simp only [Act.put, List.setIfInBounds_toArray, List.set_cons_zero, List.set_cons_succ]
      refine takeL 27 rfl (v := ?_) (by kernel_rfl) (by kernel_rfl) (by kernel_rfl) (by exact fun _ _ _ h => h) (Or.inl ⟨by rfl, ?_⟩) ⟨[], [], hst⟩ ?_
      rotate_left 1
      · intro w' hSw; go_simp; try with_reducible rfl
      try simp only [Act.put, List.setIfInBounds_toArray, List.set_cons_zero, List.set_cons_succ]
      refine wpAnyH_done (by kernel_rfl) ?_ _
      go_wp2
      go_ret
      exact ⟨by simp, hst.below⟩
    · have hlp := Lib.hid (show l.length = p.length + 4 by rw [hp]; simp)
      have hpl : p.length ≤ 140737488355320 := by rw [hp] at hlen; simp at hlen; omega
      have hr : ∀ L, Rds L [slR (.slice A l.length c) l.length (bvs l)] (.slice A l.length c) (p.length + 4) (bvs (p ++ [s0, s1, s2, s3])) := fun L => by
        have h1 : Rds L [slR (.slice A l.length c) l.length (bvs l)] (.slice A l.length c) l.length (bvs l) := Rds.slG 0 rfl
        have h2 := hlp.out
        rw [← hp, ← h2]
        exact h1
      by_cases hne : [s0, s1, s2, s3] = le4 (crc p)
      · have hpe := Lib.hid (show l = sealed p by rw [hp, hne]; rfl)
        rw [hne] at hr
        clear hp hne
        go_enter Try.func6, Try.ntmps6
        go_wp2_with (first
          | (go_at_call 9; refine use_call (alive_any _ _ _ _ _ hst) rfl ?_; clear hst; rintro e w1 ⟨rfl, hst⟩)
          | (go_at_call 13; refine use_call (seal_any (.slice A l.length c) l _ _ _ _ _ hst (Rds.slG 0 rfl) hl) rfl ?_; clear hst; rintro e w1 ⟨b1, rfl, hst⟩)
          | (go_at_call 14
             first
             | (refine use_call (open_yes (.slice (some ⟨b1, 0, none⟩) (l.length + 4) (l.length + 4)) l _ _ _ _ _ hst (Rds.ofCells 0 rfl _ _) hl) rfl ?_; clear hst; rintro e w1 ⟨u, rfl, hst⟩)
             | (refine use_call (open_yes (.slice A l.length c) p _ _ _ _ _ hst (hr _) hpl) rfl ?_; clear hst; rintro e w1 ⟨u2, rfl, hst⟩))
          | (refine wpList_opK ?_; refine r_str hst (by rfl) rfl Try.underlying22 Try.underlying5 Try.underlying9 rfl (Rds.slG 0 rfl) rfl ?_)
          | (go_at_call 15; refine use_call (refopen_yes p _ _ _ _ _ hst hpl) (congrArg (fun x => #[Value.string (str x)]) hpe.out) ?_; clear hst; rintro e w1 ⟨rfl, hst⟩))
        refine wp_region_held_drew (S := Ctx _ _ ([rowR u2 5 1 p.length (bvs p), rowR u 5 1 l.length (bvs l), cellsR b1 (bvs (sealed l)) 5]) ([slR (.slice A l.length c) l.length (bvs l)])) (by kernel_rfl) ⟨[], [], hst.drew⟩ (fun hHeld => ?_)
        replace hst := hst.drew
        generalize World.drew _ = wd at hst hHeld ⊢; clear hHeld
        refine takeL 0 rfl (v := ?_) (by kernel_rfl) (by kernel_rfl) (by kernel_rfl) (by exact fun _ _ _ h => h) (Or.inl ⟨by rfl, ?_⟩) ⟨[], [], hst⟩ ?_
        rotate_left 1
        · intro w' hSw; go_simp; try with_reducible rfl
        try simp only [Act.put, List.setIfInBounds_toArray, List.set_cons_zero, List.set_cons_succ]
        refine takeL 1 rfl (by kernel_rfl) (by kernel_rfl) (by kernel_rfl) (by exact fun _ _ _ h => h) (y_str (by rfl) rfl Try.underlying22 Try.underlying5 Try.underlying9 rfl (l := sealed l) (Rds.ofCells 2 rfl _ _) (by rw [sealed_length])) ⟨[], [], hst⟩ ?_
        try simp only [Act.put, List.setIfInBounds_toArray, List.set_cons_zero, List.set_cons_succ]
        refine takeL 2 rfl (v := ?_) (by kernel_rfl) (by kernel_rfl) (by kernel_rfl) (by exact fun _ _ _ h => h) (Or.inl ⟨by rfl, ?_⟩) ⟨[], [], hst⟩ ?_
        rotate_left 1
        · intro w' hSw; go_simp; try with_reducible rfl
        try simp only [Act.put, List.setIfInBounds_toArray, List.set_cons_zero, List.set_cons_succ]
        refine takeL 3 rfl (by kernel_rfl) (by kernel_rfl) (by kernel_rfl) (by exact fun _ _ _ h => h) (y_str (by rfl) rfl Try.underlying22 Try.underlying5 Try.underlying9 rfl (Rds.slG 0 rfl) rfl) ⟨[], [], hst⟩ ?_
        try simp only [Act.put, List.setIfInBounds_toArray, List.set_cons_zero, List.set_cons_succ]
        refine nextL 4 rfl (by kernel_rfl) (fun K hK => ?_)
        go_simp
        refine use_call (refseal_any l _ _ _ _ _ hst (by omega)) (by simp [Act.eval]) ?_
        clear hst; rintro e w' ⟨rfl, hst⟩
        refine hK.out _ _ ⟨[], [], hst⟩ (fun _ => ?_); clear hK K
        try simp only [Act.put, List.setIfInBounds_toArray, List.set_cons_zero, List.set_cons_succ]
        refine takeL 5 rfl (v := ?_) (by kernel_rfl) (by kernel_rfl) (by kernel_rfl) (by exact fun _ _ _ h => h) (Or.inl ⟨by rfl, ?_⟩) ⟨[], [], hst⟩ ?_
        rotate_left 1
        · intro w' hSw; go_simp; try with_reducible rfl
        try simp only [Act.put, List.setIfInBounds_toArray, List.set_cons_zero, List.set_cons_succ]
        refine takeL 6 rfl (v := ?_) (by kernel_rfl) (by kernel_rfl) (by kernel_rfl) (by exact fun _ _ _ h => h) (Or.inl ⟨by rfl, ?_⟩) ⟨[], [], hst⟩ ?_
        rotate_left 1
        · intro w' hSw; go_simp; try with_reducible rfl
        try simp only [Act.put, List.setIfInBounds_toArray, List.set_cons_zero, List.set_cons_succ]
        refine takeL 7 rfl (v := ?_) (by kernel_rfl) (by kernel_rfl) (by kernel_rfl) (by exact fun _ _ _ h => h) (Or.inl ⟨by rfl, ?_⟩) ⟨[], [], hst⟩ ?_
        rotate_left 1
        · intro w' hSw; go_simp; try with_reducible rfl
        try simp only [Act.put, List.setIfInBounds_toArray, List.set_cons_zero, List.set_cons_succ]
        refine takeL 8 rfl (v := ?_) (by kernel_rfl) (by kernel_rfl) (by kernel_rfl) (by exact fun _ _ _ h => h) (Or.inl ⟨by rfl, ?_⟩) ⟨[], [], hst⟩ ?_
        rotate_left 1
        · intro w' hSw; go_simp; try with_reducible rfl
        try simp only [Act.put, List.setIfInBounds_toArray, List.set_cons_zero, List.set_cons_succ]
        refine takeL 9 rfl (v := ?_) (by kernel_rfl) (by kernel_rfl) (by kernel_rfl) (by exact fun _ _ _ h => h) (Or.inl ⟨by rfl, ?_⟩) ⟨[], [], hst⟩ ?_
        rotate_left 1
        · intro w' hSw; go_simp; try with_reducible rfl
        try simp only [Act.put, List.setIfInBounds_toArray, List.set_cons_zero, List.set_cons_succ]
        refine takeL 10 rfl (v := ?_) (by kernel_rfl) (by kernel_rfl) (by kernel_rfl) (by exact fun _ _ _ h => h) (Or.inl ⟨by rfl, ?_⟩) ⟨[], [], hst⟩ ?_
        rotate_left 1
        · intro w' hSw; go_simp; try with_reducible rfl
        try simp only [Act.put, List.setIfInBounds_toArray, List.set_cons_zero, List.set_cons_succ]
        refine takeL 11 rfl (by kernel_rfl) (by kernel_rfl) (by kernel_rfl) (by exact fun _ _ _ h => h) (y_str (by rfl) rfl Try.underlying22 Try.underlying5 Try.underlying9 rfl (l := l) (Rds.rowL 1 rfl) rfl) ⟨[], [], hst⟩ ?_
        try simp only [Act.put, List.setIfInBounds_toArray, List.set_cons_zero, List.set_cons_succ]
        refine takeL 12 rfl (v := ?_) (by kernel_rfl) (by kernel_rfl) (by kernel_rfl) (by exact fun _ _ _ h => h) (Or.inl ⟨by rfl, ?_⟩) ⟨[], [], hst⟩ ?_
        rotate_left 1
        · intro w' hSw; go_simp; try with_reducible rfl
        try simp only [Act.put, List.setIfInBounds_toArray, List.set_cons_zero, List.set_cons_succ]
        refine takeL 13 rfl (by kernel_rfl) (by kernel_rfl) (by kernel_rfl) (by exact fun _ _ _ h => h) (y_str (by rfl) rfl Try.underlying22 Try.underlying5 Try.underlying9 rfl (Rds.slG 0 rfl) rfl) ⟨[], [], hst⟩ ?_
        try simp only [Act.put, List.setIfInBounds_toArray, List.set_cons_zero, List.set_cons_succ]
        refine takeL 14 rfl (v := ?_) (by kernel_rfl) (by kernel_rfl) (by kernel_rfl) (by exact fun _ _ _ h => h) (Or.inl ⟨by rfl, ?_⟩) ⟨[], [], hst⟩ ?_
        rotate_left 1
        · intro w' hSw; go_simp; try with_reducible rfl
        try simp only [Act.put, List.setIfInBounds_toArray, List.set_cons_zero, List.set_cons_succ]
        refine takeL 15 rfl (v := ?_) (by kernel_rfl) (by kernel_rfl) (by kernel_rfl) (by exact fun _ _ _ h => h) (Or.inl ⟨by rfl, ?_⟩) ⟨[], [], hst⟩ ?_
        rotate_left 1
        · intro w' hSw; go_simp; try with_reducible rfl
        try simp only [Act.put, List.setIfInBounds_toArray, List.set_cons_zero, List.set_cons_succ]
        refine takeL 16 rfl (v := ?_) (by kernel_rfl) (by kernel_rfl) (by kernel_rfl) (by exact fun _ _ _ h => h) (Or.inl ⟨by rfl, ?_⟩) ⟨[], [], hst⟩ ?_
        rotate_left 1
        · intro w' hSw; go_simp; try with_reducible rfl
        try simp only [Act.put, List.setIfInBounds_toArray, List.set_cons_zero, List.set_cons_succ]
        refine takeL 17 rfl (v := ?_) (by kernel_rfl) (by kernel_rfl) (by kernel_rfl) (by exact fun _ _ _ h => h) (Or.inl ⟨by rfl, ?_⟩) ⟨[], [], hst⟩ ?_
        rotate_left 1
        · intro w' hSw; go_simp; try with_reducible rfl
        try simp only [Act.put, List.setIfInBounds_toArray, List.set_cons_zero, List.set_cons_succ]
        refine takeL 18 rfl (v := ?_) (by kernel_rfl) (by kernel_rfl) (by kernel_rfl) (by exact fun _ _ _ h => h) (Or.inl ⟨by rfl, ?_⟩) ⟨[], [], hst⟩ ?_
        rotate_left 1
        · intro w' hSw; go_simp; try with_reducible rfl
        try simp only [Act.put, List.setIfInBounds_toArray, List.set_cons_zero, List.set_cons_succ]
        refine takeL 19 rfl (v := ?_) (by kernel_rfl) (by kernel_rfl) (by kernel_rfl) (by exact fun _ _ _ h => h) (Or.inl ⟨by rfl, ?_⟩) ⟨[], [], hst⟩ ?_
        rotate_left 1
        · intro w' hSw; go_simp; try with_reducible rfl
        try simp only [Act.put, List.setIfInBounds_toArray, List.set_cons_zero, List.set_cons_succ]
        refine takeL 20 rfl (v := ?_) (by kernel_rfl) (by kernel_rfl) (by kernel_rfl) (by exact fun _ _ _ h => h) (Or.inl ⟨by rfl, ?_⟩) ⟨[], [], hst⟩ ?_
        rotate_left 1
        · intro w' hSw; go_simp; try with_reducible rfl
        try simp only [Act.put, List.setIfInBounds_toArray, List.set_cons_zero, List.set_cons_succ]
        refine takeL 21 rfl (v := ?_) (by kernel_rfl) (by kernel_rfl) (by kernel_rfl) (by exact fun _ _ _ h => h) (Or.inl ⟨by rfl, ?_⟩) ⟨[], [], hst⟩ ?_
        rotate_left 1
        · intro w' hSw; go_simp; try with_reducible rfl
        try simp only [Act.put, List.setIfInBounds_toArray, List.set_cons_zero, List.set_cons_succ]
        refine takeL 22 rfl (v := ?_) (by kernel_rfl) (by kernel_rfl) (by kernel_rfl) (by exact fun _ _ _ h => h) (Or.inl ⟨by rfl, ?_⟩) ⟨[], [], hst⟩ ?_
        rotate_left 1
        · intro w' hSw; go_simp; try with_reducible rfl
        try simp only [Act.put, List.setIfInBounds_toArray, List.set_cons_zero, List.set_cons_succ]
        refine takeL 23 rfl (by kernel_rfl) (by kernel_rfl) (by kernel_rfl) (by exact fun _ _ _ h => h) (y_str (by rfl) rfl Try.underlying22 Try.underlying5 Try.underlying9 rfl (l := p) (Rds.rowL 0 rfl) rfl) ⟨[], [], hst⟩ ?_
        try simp only [Act.put, List.setIfInBounds_toArray, List.set_cons_zero, List.set_cons_succ]
        refine takeL 24 rfl (v := ?_) (by kernel_rfl) (by kernel_rfl) (by kernel_rfl) (by exact fun _ _ _ h => h) (Or.inl ⟨by rfl, ?_⟩) ⟨[], [], hst⟩ ?_
        rotate_left 1
        · intro w' hSw; go_simp; try with_reducible rfl
        try simp only [Act.put, List.setIfInBounds_toArray, List.set_cons_zero, List.set_cons_succ]
        refine takeL 25 rfl (v := ?_) (by kernel_rfl) (by kernel_rfl) (by kernel_rfl) (by exact fun _ _ _ h => h) (Or.inl ⟨by rfl, ?_⟩) ⟨[], [], hst⟩ ?_
        rotate_left 1
        · intro w' hSw; go_simp; try with_reducible rfl
        try simp only [Act.put, List.setIfInBounds_toArray, List.set_cons_zero, List.set_cons_succ]
        refine takeL 26 rfl (v := ?_) (by kernel_rfl) (by kernel_rfl) (by kernel_rfl) (by exact fun _ _ _ h => h) (Or.inl ⟨by rfl, ?_⟩) ⟨[], [], hst⟩ ?_
        rotate_left 1
        · intro w' hSw; go_simp; try with_reducible rfl
        try simp only [Act.put, List.setIfInBounds_toArray, List.set_cons_zero, List.set_cons_succ]
        refine takeL 27 rfl (v := ?_) (by kernel_rfl) (by kernel_rfl) (by kernel_rfl) (by exact fun _ _ _ h => h) (Or.inl ⟨by rfl, ?_⟩) ⟨[], [], hst⟩ ?_
        rotate_left 1
        · intro w' hSw; go_simp; try with_reducible rfl
        try simp only [Act.put, List.setIfInBounds_toArray, List.set_cons_zero, List.set_cons_succ]
        refine wpAnyH_done (by kernel_rfl) ?_ _
        go_wp2
        go_ret
        exact ⟨by simp, hst.below⟩
      · have hp' := Lib.hid hp
        clear hp
        go_enter Try.func6, Try.ntmps6
        go_wp2_with (first
          | (go_at_call 9; refine use_call (alive_any _ _ _ _ _ hst) rfl ?_; clear hst; rintro e w1 ⟨rfl, hst⟩)
          | (go_at_call 13; refine use_call (seal_any (.slice A l.length c) l _ _ _ _ _ hst (Rds.slG 0 rfl) hl) rfl ?_; clear hst; rintro e w1 ⟨b1, rfl, hst⟩)
          | (go_at_call 14
             first
             | (refine use_call (open_yes (.slice (some ⟨b1, 0, none⟩) (l.length + 4) (l.length + 4)) l _ _ _ _ _ hst (Rds.ofCells 0 rfl _ _) hl) rfl ?_; clear hst; rintro e w1 ⟨u, rfl, hst⟩)
             | (refine use_call (open_no (.slice A l.length c) p s0 s1 s2 s3 _ _ _ _ _ hst (hr _) hpl hne) rfl ?_; clear hst; rintro e w1 ⟨rfl, hst⟩))
          | (refine wpList_opK ?_; refine r_str hst (by rfl) rfl Try.underlying22 Try.underlying5 Try.underlying9 rfl (Rds.slG 0 rfl) rfl ?_)
          | (go_at_call 15; refine use_call (refopen_no p [s0, s1, s2, s3] rfl hne _ _ _ _ _ hst hpl) (congrArg (fun x => #[Value.string (str x)]) hp'.out) ?_; clear hst; rintro e w1 ⟨rfl, hst⟩))
        refine wp_region_held_drew (S := Ctx _ _ ([rowR u 5 1 l.length (bvs l), cellsR b1 (bvs (sealed l)) 5]) ([slR (.slice A l.length c) l.length (bvs l)])) (by kernel_rfl) ⟨[], [], hst.drew⟩ (fun hHeld => ?_)
        replace hst := hst.drew
        generalize World.drew _ = wd at hst hHeld ⊢; clear hHeld
        refine takeL 0 rfl (v := ?_) (by kernel_rfl) (by kernel_rfl) (by kernel_rfl) (by exact fun _ _ _ h => h) (Or.inl ⟨by rfl, ?_⟩) ⟨[], [], hst⟩ ?_
        rotate_left 1
        · intro w' hSw; go_simp; try with_reducible rfl
        try simp only [Act.put, List.setIfInBounds_toArray, List.set_cons_zero, List.set_cons_succ]
        refine takeL 1 rfl (by kernel_rfl) (by kernel_rfl) (by kernel_rfl) (by exact fun _ _ _ h => h) (y_str (by rfl) rfl Try.underlying22 Try.underlying5 Try.underlying9 rfl (l := sealed l) (Rds.ofCells 1 rfl _ _) (by rw [sealed_length])) ⟨[], [], hst⟩ ?_
        try simp only [Act.put, List.setIfInBounds_toArray, List.set_cons_zero, List.set_cons_succ]
        refine takeL 2 rfl (v := ?_) (by kernel_rfl) (by kernel_rfl) (by kernel_rfl) (by exact fun _ _ _ h => h) (Or.inl ⟨by rfl, ?_⟩) ⟨[], [], hst⟩ ?_
        rotate_left 1
        · intro w' hSw; go_simp; try with_reducible rfl
        try simp only [Act.put, List.setIfInBounds_toArray, List.set_cons_zero, List.set_cons_succ]
        refine takeL 3 rfl (by kernel_rfl) (by kernel_rfl) (by kernel_rfl) (by exact fun _ _ _ h => h) (y_str (by rfl) rfl Try.underlying22 Try.underlying5 Try.underlying9 rfl (Rds.slG 0 rfl) rfl) ⟨[], [], hst⟩ ?_
        try simp only [Act.put, List.setIfInBounds_toArray, List.set_cons_zero, List.set_cons_succ]
        refine nextL 4 rfl (by kernel_rfl) (fun K hK => ?_)
        go_simp
        refine use_call (refseal_any l _ _ _ _ _ hst (by omega)) (by simp [Act.eval]) ?_
        clear hst; rintro e w' ⟨rfl, hst⟩
        refine hK.out _ _ ⟨[], [], hst⟩ (fun _ => ?_); clear hK K
        try simp only [Act.put, List.setIfInBounds_toArray, List.set_cons_zero, List.set_cons_succ]
        refine takeL 5 rfl (v := ?_) (by kernel_rfl) (by kernel_rfl) (by kernel_rfl) (by exact fun _ _ _ h => h) (Or.inl ⟨by rfl, ?_⟩) ⟨[], [], hst⟩ ?_
        rotate_left 1
        · intro w' hSw; go_simp; try with_reducible rfl
        try simp only [Act.put, List.setIfInBounds_toArray, List.set_cons_zero, List.set_cons_succ]
        refine takeL 6 rfl (v := ?_) (by kernel_rfl) (by kernel_rfl) (by kernel_rfl) (by exact fun _ _ _ h => h) (Or.inl ⟨by rfl, ?_⟩) ⟨[], [], hst⟩ ?_
        rotate_left 1
        · intro w' hSw; go_simp; try with_reducible rfl
        try simp only [Act.put, List.setIfInBounds_toArray, List.set_cons_zero, List.set_cons_succ]
        refine takeL 7 rfl (v := ?_) (by kernel_rfl) (by kernel_rfl) (by kernel_rfl) (by exact fun _ _ _ h => h) (Or.inl ⟨by rfl, ?_⟩) ⟨[], [], hst⟩ ?_
        rotate_left 1
        · intro w' hSw; go_simp; try with_reducible rfl
        try simp only [Act.put, List.setIfInBounds_toArray, List.set_cons_zero, List.set_cons_succ]
        refine takeL 8 rfl (v := ?_) (by kernel_rfl) (by kernel_rfl) (by kernel_rfl) (by exact fun _ _ _ h => h) (Or.inl ⟨by rfl, ?_⟩) ⟨[], [], hst⟩ ?_
        rotate_left 1
        · intro w' hSw; go_simp; try with_reducible rfl
        try simp only [Act.put, List.setIfInBounds_toArray, List.set_cons_zero, List.set_cons_succ]
        refine takeL 9 rfl (v := ?_) (by kernel_rfl) (by kernel_rfl) (by kernel_rfl) (by exact fun _ _ _ h => h) (Or.inl ⟨by rfl, ?_⟩) ⟨[], [], hst⟩ ?_
        rotate_left 1
        · intro w' hSw; go_simp; try with_reducible rfl
        try simp only [Act.put, List.setIfInBounds_toArray, List.set_cons_zero, List.set_cons_succ]
        refine takeL 10 rfl (v := ?_) (by kernel_rfl) (by kernel_rfl) (by kernel_rfl) (by exact fun _ _ _ h => h) (Or.inl ⟨by rfl, ?_⟩) ⟨[], [], hst⟩ ?_
        rotate_left 1
        · intro w' hSw; go_simp; try with_reducible rfl
        try simp only [Act.put, List.setIfInBounds_toArray, List.set_cons_zero, List.set_cons_succ]
        refine takeL 11 rfl (by kernel_rfl) (by kernel_rfl) (by kernel_rfl) (by exact fun _ _ _ h => h) (y_str (by rfl) rfl Try.underlying22 Try.underlying5 Try.underlying9 rfl (l := l) (Rds.rowL 0 rfl) rfl) ⟨[], [], hst⟩ ?_
        try simp only [Act.put, List.setIfInBounds_toArray, List.set_cons_zero, List.set_cons_succ]
        refine takeL 12 rfl (v := ?_) (by kernel_rfl) (by kernel_rfl) (by kernel_rfl) (by exact fun _ _ _ h => h) (Or.inl ⟨by rfl, ?_⟩) ⟨[], [], hst⟩ ?_
        rotate_left 1
        · intro w' hSw; go_simp; try with_reducible rfl
        try simp only [Act.put, List.setIfInBounds_toArray, List.set_cons_zero, List.set_cons_succ]
        refine takeL 13 rfl (by kernel_rfl) (by kernel_rfl) (by kernel_rfl) (by exact fun _ _ _ h => h) (y_str (by rfl) rfl Try.underlying22 Try.underlying5 Try.underlying9 rfl (Rds.slG 0 rfl) rfl) ⟨[], [], hst⟩ ?_
        try simp only [Act.put, List.setIfInBounds_toArray, List.set_cons_zero, List.set_cons_succ]
        refine takeL 14 rfl (v := ?_) (by kernel_rfl) (by kernel_rfl) (by kernel_rfl) (by exact fun _ _ _ h => h) (Or.inl ⟨by rfl, ?_⟩) ⟨[], [], hst⟩ ?_
        rotate_left 1
        · intro w' hSw; go_simp; try with_reducible rfl
        try simp only [Act.put, List.setIfInBounds_toArray, List.set_cons_zero, List.set_cons_succ]
        refine takeL 15 rfl (v := ?_) (by kernel_rfl) (by kernel_rfl) (by kernel_rfl) (by exact fun _ _ _ h => h) (Or.inl ⟨by rfl, ?_⟩) ⟨[], [], hst⟩ ?_
        rotate_left 1
        · intro w' hSw; go_simp; try with_reducible rfl
        try simp only [Act.put, List.setIfInBounds_toArray, List.set_cons_zero, List.set_cons_succ]
        refine takeL 16 rfl (v := ?_) (by kernel_rfl) (by kernel_rfl) (by kernel_rfl) (by exact fun _ _ _ h => h) (Or.inl ⟨by rfl, ?_⟩) ⟨[], [], hst⟩ ?_
        rotate_left 1
        · intro w' hSw; go_simp; try with_reducible rfl
        try simp only [Act.put, List.setIfInBounds_toArray, List.set_cons_zero, List.set_cons_succ]
        refine takeL 17 rfl (v := ?_) (by kernel_rfl) (by kernel_rfl) (by kernel_rfl) (by exact fun _ _ _ h => h) (Or.inl ⟨by rfl, ?_⟩) ⟨[], [], hst⟩ ?_
        rotate_left 1
        · intro w' hSw; go_simp; try with_reducible rfl
        try simp only [Act.put, List.setIfInBounds_toArray, List.set_cons_zero, List.set_cons_succ]
        refine takeL 18 rfl (v := ?_) (by kernel_rfl) (by kernel_rfl) (by kernel_rfl) (by exact fun _ _ _ h => h) (Or.inl ⟨by rfl, ?_⟩) ⟨[], [], hst⟩ ?_
        rotate_left 1
        · intro w' hSw; go_simp; try with_reducible rfl
        try simp only [Act.put, List.setIfInBounds_toArray, List.set_cons_zero, List.set_cons_succ]
        refine takeL 19 rfl (v := ?_) (by kernel_rfl) (by kernel_rfl) (by kernel_rfl) (by exact fun _ _ _ h => h) (Or.inl ⟨by rfl, ?_⟩) ⟨[], [], hst⟩ ?_
        rotate_left 1
        · intro w' hSw; go_simp; try with_reducible rfl
        try simp only [Act.put, List.setIfInBounds_toArray, List.set_cons_zero, List.set_cons_succ]
        refine takeL 20 rfl (v := ?_) (by kernel_rfl) (by kernel_rfl) (by kernel_rfl) (by exact fun _ _ _ h => h) (Or.inl ⟨by rfl, ?_⟩) ⟨[], [], hst⟩ ?_
        rotate_left 1
        · intro w' hSw; go_simp; try with_reducible rfl
        try simp only [Act.put, List.setIfInBounds_toArray, List.set_cons_zero, List.set_cons_succ]
        refine takeL 21 rfl (v := ?_) (by kernel_rfl) (by kernel_rfl) (by kernel_rfl) (by exact fun _ _ _ h => h) (Or.inl ⟨by rfl, ?_⟩) ⟨[], [], hst⟩ ?_
        rotate_left 1
        · intro w' hSw; go_simp; try with_reducible rfl
        try simp only [Act.put, List.setIfInBounds_toArray, List.set_cons_zero, List.set_cons_succ]
        refine takeL 22 rfl (v := ?_) (by kernel_rfl) (by kernel_rfl) (by kernel_rfl) (by exact fun _ _ _ h => h) (Or.inl ⟨by rfl, ?_⟩) ⟨[], [], hst⟩ ?_
        rotate_left 1
        · intro w' hSw; go_simp; try with_reducible rfl
        try simp only [Act.put, List.setIfInBounds_toArray, List.set_cons_zero, List.set_cons_succ]
        refine takeL 23 rfl (by kernel_rfl) (by kernel_rfl) (by kernel_rfl) (by exact fun _ _ _ h => h) (y_str (by rfl) rfl Try.underlying22 Try.underlying5 Try.underlying9 rfl (v := .slice none 0 0) (l := []) (n := 0) (Rds.nil (.inr (List.mem_cons_self ..))) rfl) ⟨[], [], hst⟩ ?_
        try simp only [Act.put, List.setIfInBounds_toArray, List.set_cons_zero, List.set_cons_succ]
        refine takeL 24 rfl (v := ?_) (by kernel_rfl) (by kernel_rfl) (by kernel_rfl) (by exact fun _ _ _ h => h) (Or.inl ⟨by rfl, ?_⟩) ⟨[], [], hst⟩ ?_
        rotate_left 1
        · intro w' hSw; go_simp; try with_reducible rfl
        try simp only [Act.put, List.setIfInBounds_toArray, List.set_cons_zero, List.set_cons_succ]
        refine takeL 25 rfl (v := ?_) (by kernel_rfl) (by kernel_rfl) (by kernel_rfl) (by exact fun _ _ _ h => h) (Or.inl ⟨by rfl, ?_⟩) ⟨[], [], hst⟩ ?_
        rotate_left 1
        · intro w' hSw; go_simp; try with_reducible rfl
        try simp only [Act.put, List.setIfInBounds_toArray, List.set_cons_zero, List.set_cons_succ]
        refine takeL 26 rfl (v := ?_) (by kernel_rfl) (by kernel_rfl) (by kernel_rfl) (by exact fun _ _ _ h => h) (Or.inl ⟨by rfl, ?_⟩) ⟨[], [], hst⟩ ?_
        rotate_left 1
        · intro w' hSw; go_simp; try with_reducible rfl
        try simp only [Act.put, List.setIfInBounds_toArray, List.set_cons_zero, List.set_cons_succ]
        refine takeL 27 rfl (v := ?_) (by kernel_rfl) (by kernel_rfl) (by kernel_rfl) (by exact fun _ _ _ h => h) (Or.inl ⟨by rfl, ?_⟩) ⟨[], [], hst⟩ ?_
        rotate_left 1
        · intro w' hSw; go_simp; try with_reducible rfl
        try simp only [Act.put, List.setIfInBounds_toArray, List.set_cons_zero, List.set_cons_succ]
        refine wpAnyH_done (by kernel_rfl) ?_ _
        go_wp2
        go_ret
        exact ⟨by simp, hst.below⟩
  · have hd : decide (16384 < (l.length : Int)) = true := by simp; omega
    go_enter Try.func6, Try.ntmps6
    go_wp2_with (go_at_call 9; refine use_call (alive_any _ _ _ _ _ hst) rfl ?_; clear hst; rintro e w1 ⟨rfl, hst⟩)
    go_ret
    exact ⟨by simp, hst.below⟩
end Go.Proofs.Ytphnnhbneinejaa.CW
