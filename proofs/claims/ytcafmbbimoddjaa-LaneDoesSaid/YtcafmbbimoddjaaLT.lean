/- The lanes and the reference's items say the same, in plain Lean. -/
import Derived.Test.YtcafmbbimoddjaaLS
set_option linter.unusedVariables false
set_option linter.unusedSimpArgs false
namespace Go.Proofs.Ytcafmbbimoddjaa.LN
open Go.RowKit Go.Proofs.Ytcafmbbimoddjaa.K

def strip (x : RI) : It := (x.s, x.age)
structure Rel (qs : Qs) (R : List RI) : Prop where
  ins : ∀ x ∈ R, inR x.who
  at_ : ∀ who, inR who → (of_ who R).map strip = qat qs who
theorem of_out {who : Int} {R : List RI} (h : ∀ x ∈ R, inR x.who) (ho : ¬ inR who) : of_ who R = [] := by
  unfold of_
  rw [List.filter_eq_nil_iff]
  intro x hx e
  have := of_decide_eq_true e
  exact ho (this ▸ h x hx)
theorem rpop_nil {who : Int} : ∀ {R : List RI}, of_ who R = [] → rpop who R = R
  | [], _ => rfl
  | x :: R, h => by
    unfold of_ at h
    by_cases e : x.who = who
    · simp [e] at h
    · simp [e] at h
      simp only [rpop, if_neg e]
      rw [rpop_nil (by unfold of_; simpa using h)]
theorem of_cons (who : Int) (x : RI) (R : List RI) : of_ who (x :: R) = if x.who = who then x :: of_ who R else of_ who R := by
  unfold of_; by_cases e : x.who = who <;> simp [e]
theorem of_rpop (who w2 : Int) (R : List RI) : of_ w2 (rpop who R) = if w2 = who then (of_ who R).tail else of_ w2 R := by
  induction R with
  | nil => simp [rpop, of_]
  | cons x R ih =>
    rw [of_cons, of_cons]
    by_cases e : x.who = who
    · simp only [rpop, if_pos e, List.tail_cons]
      by_cases e2 : w2 = who
      · rw [if_pos e2, e2]
      · rw [if_neg e2, if_neg (fun h => e2 (h.symm.trans e))]
    · simp only [rpop, if_neg e]
      rw [of_cons, ih]
      by_cases e2 : w2 = who
      · rw [if_pos e2, if_pos e2, if_neg (fun h => e (h.trans e2))]
      · rw [if_neg e2, if_neg e2]
theorem rpop_mem {who : Int} {R : List RI} : ∀ x ∈ rpop who R, x ∈ R := by
  induction R with
  | nil => intro x hx; exact hx
  | cons y R ih =>
    intro x hx
    unfold rpop at hx
    split at hx
    · exact List.mem_cons_of_mem _ hx
    · rcases List.mem_cons.1 hx with rfl | h
      · exact List.mem_cons_self
      · exact List.mem_cons_of_mem _ (ih x h)
theorem of_append (who : Int) (a b : List RI) : of_ who (a ++ b) = of_ who a ++ of_ who b := by simp [of_]
theorem Rel.len {qs : Qs} {R : List RI} (h : Rel qs R) (who : Int) : lenQ qs who = (of_ who R).length := by
  unfold lenQ
  by_cases hi : inR who
  · rw [if_pos hi, ← h.at_ who hi, List.length_map]
  · rw [if_neg hi, of_out h.ins hi]; rfl
theorem Rel.qlen {qs : Qs} {R : List RI} (h : Rel qs R) {who : Int} (hi : inR who) : (qat qs who).length = (of_ who R).length := by rw [← h.at_ who hi, List.length_map]
theorem Rel.pushE {qs : Qs} {R : List RI} (h : Rel qs R) (who : Int) (s : ByteArray) : LN.pushE qs who s = (if inR who then if s.size ≤ 4096 then if (of_ who R).length = 64 then 8 else 0 else 3 else 1) := by
  unfold LN.pushE
  by_cases hi : inR who
  · rw [if_pos hi, if_pos hi, h.qlen hi]
  · rw [if_neg hi, if_neg hi]
theorem Rel.push {qs : Qs} {R : List RI} (h : Rel qs R) (hl : qs.length = 48) (who : Int) (s : ByteArray) : Rel (pushQ qs who s) (if inR who ∧ s.size ≤ 4096 then rpush who s R else R) := by
  unfold pushQ
  by_cases hc : inR who ∧ s.size ≤ 4096
  · rw [if_pos hc, if_pos hc]
    refine ⟨fun x hx => ?_, fun w2 hw2 => ?_⟩
    · unfold rpush at hx
      rcases List.mem_append.1 hx with hx | hx
      · split at hx
        · exact h.ins x (rpop_mem x hx)
        · exact h.ins x hx
      · have : x = ⟨who, s, 0⟩ := by simpa using hx
        subst this; exact hc.1
    · unfold rpush
      rw [of_append]
      by_cases e : w2 = who
      · subst e
        rw [qat_set_eq hc.1 hl]
        unfold putQ
        rw [h.qlen hc.1, ← h.at_ w2 hc.1]
        have e2 : of_ w2 [(⟨w2, s, 0⟩ : RI)] = [⟨w2, s, 0⟩] := by simp [of_]
        rw [e2, List.map_append]
        split
        · rw [of_rpop, if_pos rfl, List.map_tail]; rfl
        · rfl
      · rw [qat_set hc.1 hw2 (fun x => e x.symm), ← h.at_ w2 hw2]
        have e2 : of_ w2 [(⟨who, s, 0⟩ : RI)] = [] := by simp [of_]; exact fun x => e x.symm
        rw [e2, List.append_nil]
        split
        · rw [of_rpop, if_neg e]
        · rfl
  · rw [if_neg hc, if_neg hc]; exact h
theorem Rel.pop {qs : Qs} {R : List RI} (h : Rel qs R) (hl : qs.length = 48) (who : Int) : Rel (popQ qs who) (rpop who R) := by
  unfold popQ
  by_cases hi : inR who
  · rw [if_pos hi]
    refine ⟨fun x hx => h.ins x (rpop_mem x hx), fun w2 hw2 => ?_⟩
    rw [of_rpop]
    by_cases e : w2 = who
    · subst e
      rw [if_pos rfl, qat_set_eq hi hl, List.map_tail, h.at_ w2 hi]
    · rw [if_neg e, qat_set hi hw2 (fun x => e x.symm), h.at_ w2 hw2]
  · rw [if_neg hi, rpop_nil (of_out h.ins hi)]; exact h
theorem Rel.popV {qs : Qs} {R : List RI} (h : Rel qs R) (who : Int) : LN.popV qs who = (((of_ who R).headD ri0).s, ((of_ who R).headD ri0).age) ∧ popB qs who = decide (of_ who R ≠ []) := by
  unfold LN.popV popB
  by_cases hi : inR who
  · rw [if_pos hi, ← h.at_ who hi]
    constructor
    · cases of_ who R <;> rfl
    · refine decide_eq_decide.2 ⟨fun x e => x.2 (by rw [e]; rfl), fun x => ⟨hi, fun e => x (List.map_eq_nil_iff.1 e)⟩⟩
  · rw [if_neg hi, of_out h.ins hi]
    refine ⟨rfl, decide_eq_decide.2 ⟨fun x => absurd x.1 hi, fun x => absurd rfl x⟩⟩
theorem of_rclear (who w2 : Int) (R : List RI) : of_ w2 (rclear who R) = if w2 = who then [] else of_ w2 R := by
  unfold of_ rclear
  rw [List.filter_filter]
  by_cases e : w2 = who
  · subst e
    rw [if_pos rfl, List.filter_eq_nil_iff]
    intro x _; simp
  · rw [if_neg e]
    apply List.filter_congr
    intro x _
    by_cases e2 : x.who = w2
    · have : x.who ≠ who := fun h => e (e2.symm.trans h)
      simp [e2, e]
    · simp [e2]
theorem Rel.clear {qs : Qs} {R : List RI} (h : Rel qs R) (hl : qs.length = 48) (who : Int) : Rel (clearQ qs who) (rclear who R) := by
  unfold clearQ
  refine ⟨fun x hx => h.ins x (List.mem_filter.1 hx).1, fun w2 hw2 => ?_⟩
  rw [of_rclear]
  by_cases hi : inR who
  · rw [if_pos hi]
    by_cases e : w2 = who
    · subst e; rw [if_pos rfl, qat_set_eq hi hl]; rfl
    · rw [if_neg e, qat_set hi hw2 (fun x => e x.symm), h.at_ w2 hw2]
  · rw [if_neg hi, if_neg (fun (e : w2 = who) => hi (e ▸ hw2)), h.at_ w2 hw2]
theorem of_rtick (most who : Int) (R : List RI) : (of_ who (rtick most R)).map strip = stay most ((of_ who R).map strip) := by
  induction R with
  | nil => rfl
  | cons x R ih =>
    have e1 : rtick most (x :: R) = (if x.age + 1 ≤ most then [{ x with age := x.age + 1 }] else []) ++ rtick most R := by
      unfold rtick; by_cases e : x.age + 1 ≤ most <;> simp [e]
    have e2 : ∀ (y : It) (q : List It), stay most (y :: q) = (if y.2 + 1 ≤ most then [older y] else []) ++ stay most q := by
      intro y q; unfold stay; by_cases e : y.2 + 1 ≤ most <;> simp [older, e]
    rw [e1, of_append, List.map_append, ih, of_cons]
    by_cases e : x.who = who
    · rw [if_pos e, List.map_cons, e2]
      congr 1
      by_cases e3 : x.age + 1 ≤ most
      · rw [if_pos e3, if_pos (show (strip x).2 + 1 ≤ most from e3)]
        simp [of_, e, strip, older]
      · rw [if_neg e3, if_neg (show ¬ (strip x).2 + 1 ≤ most from e3)]; rfl
    · rw [if_neg e]
      by_cases e3 : x.age + 1 ≤ most
      · rw [if_pos e3]; simp [of_, e]
      · rw [if_neg e3]; rfl
theorem rtick_mem {most : Int} {R : List RI} : ∀ x ∈ rtick most R, ∃ y ∈ R, x.who = y.who := by
  intro x hx
  obtain ⟨y, hy, rfl⟩ := List.mem_map.1 (List.mem_filter.1 hx).1
  exact ⟨y, hy, rfl⟩
theorem Rel.tick {qs : Qs} {R : List RI} (h : Rel qs R) (hl : qs.length = 48) (most : Int) : Rel (tickQ qs most) (rtick most R) := by
  refine ⟨fun x hx => by obtain ⟨y, hy, e⟩ := rtick_mem x hx; rw [e]; exact h.ins y hy, fun who hw => ?_⟩
  rw [of_rtick, h.at_ who hw]
  unfold qat tickQ
  rw [List.getD_eq_getElem?_getD, List.getD_eq_getElem?_getD, List.getElem?_map, List.getElem?_eq_getElem (by rw [hl]; exact hw.lt)]
  rfl
/-- How many are of the first k neighbours. -/
def cnt (R : List RI) (k : Nat) : Nat := (R.filter fun x => decide (0 ≤ x.who ∧ x.who < (k : Int))).length
theorem cnt_cons (x : RI) (R : List RI) (k : Nat) : cnt (x :: R) k = (if 0 ≤ x.who ∧ x.who < (k : Int) then 1 else 0) + cnt R k := by
  unfold cnt
  by_cases h : 0 ≤ x.who ∧ x.who < (k : Int)
  · rw [List.filter_cons, if_pos (by rw [decide_eq_true_eq]; exact h), if_pos h, List.length_cons]; omega
  · rw [List.filter_cons, if_neg (by rw [decide_eq_true_eq]; exact h), if_neg h]; omega
theorem cnt_succ (R : List RI) (k : Nat) : cnt R (k + 1) = cnt R k + (of_ (k : Int) R).length := by
  induction R with
  | nil => rfl
  | cons x R ih =>
    rw [of_cons, cnt_cons, cnt_cons, ih]
    by_cases h3 : x.who = (k : Int)
    · rw [if_pos h3, if_pos (by omega), if_neg (by omega), List.length_cons]; omega
    · rw [if_neg h3]
      by_cases h1 : 0 ≤ x.who ∧ x.who < (k : Int)
      · rw [if_pos (by omega), if_pos h1]; omega
      · rw [if_neg (by omega), if_neg h1]; omega
theorem Rel.sum {qs : Qs} {R : List RI} (h : Rel qs R) : ∀ k, sumLen qs k = cnt R k
  | 0 => by
    unfold sumLen cnt
    rw [List.filter_eq_nil_iff.2]
    · rfl
    · intro x _ hd
      have := of_decide_eq_true hd
      omega
  | k + 1 => by
    rw [cnt_succ, ← Rel.sum h k, ← h.len]; rfl
theorem Rel.tot {qs : Qs} {R : List RI} (h : Rel qs R) (hl : qs.length = 48) : LN.tot qs = R.length := by
  rw [← sumLen_tot hl, h.sum]
  unfold cnt
  rw [List.filter_eq_self.2]
  intro x hx
  have := h.ins x hx
  unfold inR at this
  exact decide_eq_true (by omega)
theorem Rel.age {qs : Qs} {R : List RI} (h : Rel qs R) (hl : qs.length = 48) {N : Int} (ha : ∀ q ∈ qs, ∀ x ∈ q, 0 ≤ x.2 ∧ x.2 ≤ N) : ∀ x ∈ R, 0 ≤ x.age ∧ x.age ≤ N := by
  intro x hx
  have hi := h.ins x hx
  have hm : strip x ∈ qat qs x.who := by
    rw [← h.at_ x.who hi]
    exact List.mem_map_of_mem (by unfold of_; simp [hx])
  refine ha _ ?_ _ hm
  unfold qat
  exact getD_memQ (by rw [hl]; exact hi.lt)
theorem Rel.zero : Rel q0 [] := by
  refine ⟨by simp, fun who h => ?_⟩
  unfold qat q0
  rw [List.getD_eq_getElem?_getD, List.getElem?_replicate]
  split <;> rfl
end Go.Proofs.Ytcafmbbimoddjaa.LN
