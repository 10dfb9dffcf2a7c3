/- The base of this seat's walks, continued: a region that draws its order, told op by op: what each operation leaves in its slot, whatever has come up before it. -/
import Derived.Test.YtkbkgpedpaodlaaK4
set_option linter.unusedVariables false
set_option linter.unusedSimpArgs false
namespace Go.Proofs.Ytkbkgpedpaodlaa.K
open Go.RowKit

/-- What is known of the slot that one operation writes, once it has come up. -/
structure Told where
  op : Nat
  dst : Tmp
  is : Value → List Res → Prop
  mono : ∀ v G G', (∀ g ∈ G, g ∈ G') → is v G → is v G'
/-- The slot holds a value that is known. -/
def Told.val (op : Nat) (dst : Tmp) (v : Value) : Told := ⟨op, dst, fun u _ => u = v, fun _ _ _ _ h => h⟩
/-- The slot holds a slice literal; its block is known. -/
def Told.lit (op : Nat) (dst : Tmp) (n : Nat) (cs : List Value) (e : TypeId) : Told := ⟨op, dst, fun u G => ∃ b, u = .slice (some ⟨b, 0, none⟩) n n ∧ cellsR b cs e ∈ G, fun _ _ _ hs ⟨b, h1, h2⟩ => ⟨b, h1, hs _ h2⟩⟩

structure RInv (fs : List Told) (a0 : Act) (w0 : World) (F0 : List Nat) (L G : List Res) (listed : Array Bool) (a : Act) (w : World) : Prop where
  defers : a.defers = a0.defers
  size : a.tmps.size = a0.tmps.size
  base : ∀ t, (∀ x ∈ fs, x.dst ≠ t) → a.eval (.tmp t) = a0.eval (.tmp t)
  st : ∃ G', St w0 F0 w L (G' ++ G) ∧ ∀ x ∈ fs, listed.getD x.op false = true → x.is (a.eval (.tmp x.dst)) (G' ++ G)

section
variable {P : Program} {Q : Exit → Act → World → Prop} {md : Region.Mode} {l : List Oper} {fs : List Told} {a0 : Act} {w0 : World} {F0 : List Nat} {L G : List Res}

theorem eval_put_same (a : Act) (d : Nat) (v : Value) (h : d < a.tmps.size) : (a.put (some d) v).eval (.tmp d) = v := by simp [Act.put, Act.eval, Array.getD, h]
theorem eval_put_ne (a : Act) (d j : Nat) (v : Value) (h : d ≠ j) : (a.put (some d) v).eval (.tmp j) = a.eval (.tmp j) := by
  simp only [Act.put, Act.eval, Array.getD_eq_getD_getElem?]
  rw [Array.getElem?_setIfInBounds_ne h]
theorem getD_set (listed : Array Bool) (i j : Nat) (h : (listed.setIfInBounds i true).getD j false = true) : j = i ∨ listed.getD j false = true := by
  by_cases e : i = j
  · exact .inl e.symm
  · right
    rw [Array.getD_eq_getD_getElem?, Array.getElem?_setIfInBounds_ne e] at h
    rwa [Array.getD_eq_getD_getElem?]
/-- Behind one operation: its slot is told, what was told stays. -/
theorem RInv.put {listed : Array Bool} {a : Act} {w' : World} {G' G'' : List Res} (h1 : a.defers = a0.defers) (h2 : a.tmps.size = a0.tmps.size) (h3 : ∀ t, (∀ x ∈ fs, x.dst ≠ t) → a.eval (.tmp t) = a0.eval (.tmp t))
    (h4 : ∀ x ∈ fs, listed.getD x.op false = true → x.is (a.eval (.tmp x.dst)) (G' ++ G)) (hG : ∀ g ∈ G' ++ G, g ∈ G'' ++ G) (hst : St w0 F0 w' L (G'' ++ G))
    (i d : Nat) (v : Value) (hd : d < a0.tmps.size) (hu : ∀ x ∈ fs, x.op = i ∧ x.dst = d ∨ x.op ≠ i ∧ x.dst ≠ d) (hin : ∃ x ∈ fs, x.dst = d) (hv : ∀ x ∈ fs, x.op = i → x.is v (G'' ++ G)) :
    RInv fs a0 w0 F0 L G (listed.setIfInBounds i true) (a.put (some d) v) w' := by
  refine ⟨h1, by simp [Act.put, h2], fun t ht => ?_, G'', hst, fun x hx hl => ?_⟩
  · obtain ⟨x, hx, rfl⟩ := hin
    rw [eval_put_ne _ _ _ _ (ht x hx)]
    exact h3 t ht
  · rcases hu x hx with ⟨e1, e2⟩ | ⟨e1, e2⟩
    · rw [e2, eval_put_same _ _ _ (by rw [h2]; exact hd)]
      exact hv x hx e1
    · rw [eval_put_ne _ _ _ _ (fun h => e2 h.symm)]
      rcases getD_set _ _ _ hl with h | h
      · exact absurd h e1
      · exact x.mono _ _ _ hG (h4 x hx h)

/-- The same, what is asked of the table being reckoned. -/
theorem RInv.lay {listed : Array Bool} {a : Act} {w' : World} {G' G'' : List Res} (h1 : a.defers = a0.defers) (h2 : a.tmps.size = a0.tmps.size) (h3 : ∀ t, (∀ x ∈ fs, x.dst ≠ t) → a.eval (.tmp t) = a0.eval (.tmp t))
    (h4 : ∀ x ∈ fs, listed.getD x.op false = true → x.is (a.eval (.tmp x.dst)) (G' ++ G)) (hst : St w0 F0 w' L (G'' ++ G)) (hG : ∀ g ∈ G', g ∈ G'')
    (n : Nat) {x : Told} (hx : fs[n]? = some x) (chk : ((fs.eraseIdx n).all fun y => y.op != x.op && y.dst != x.dst) = true) {v : Value} (hd : x.dst < a0.tmps.size) (hv : x.is v (G'' ++ G)) :
    RInv fs a0 w0 F0 L G (listed.setIfInBounds x.op true) (a.put (some x.dst) v) w' := by
  have hn : n < fs.length := by rcases Nat.lt_or_ge n fs.length with h | h; exact h; rw [List.getElem?_eq_none h] at hx; cases hx
  have hxe : fs[n] = x := by rw [List.getElem?_eq_getElem hn] at hx; injection hx
  have hsplit : fs = fs.take n ++ x :: fs.drop (n + 1) := by rw [← hxe, ← List.drop_eq_getElem_cons hn, List.take_append_drop]
  have hall : ∀ y ∈ fs, y = x ∨ y.op ≠ x.op ∧ y.dst ≠ x.dst := by
    intro y hy
    rw [hsplit, List.mem_append, List.mem_cons] at hy
    rw [List.all_eq_true] at chk
    have hm : y ∈ fs.take n ∨ y ∈ fs.drop (n + 1) → y.op ≠ x.op ∧ y.dst ≠ x.dst := by
      intro h
      have := chk y (by rw [List.eraseIdx_eq_take_drop_succ, List.mem_append]; exact h)
      simpa using this
    rcases hy with h | h | h
    · exact .inr (hm (.inl h))
    · exact .inl h
    · exact .inr (hm (.inr h))
  refine RInv.put h1 h2 h3 h4 (fun g hg => ?_) hst x.op x.dst v hd ?_ ⟨x, List.mem_of_getElem? hx, rfl⟩ ?_
  · rcases List.mem_append.1 hg with h | h
    · exact List.mem_append.2 (.inl (hG g h))
    · exact List.mem_append.2 (.inr h)
  · intro y hy
    rcases hall y hy with h | h
    · subst h; exact .inl ⟨rfl, rfl⟩
    · exact .inr h
  · intro y hy he
    rcases hall y hy with h | h
    · subst h; exact hv
    · exact absurd he h.1
theorem base_of {a : Act} (h3 : ∀ t, (∀ x ∈ fs, x.dst ≠ t) → a.eval (.tmp t) = a0.eval (.tmp t)) (t : Tmp) (h : (fs.all fun x => x.dst != t) = true) {v : Value} (hv : a0.eval (.tmp t) = v) : a.tmps.getD t undef = v := by
  rw [← hv, ← h3 t]
  · rfl
  · intro x hx
    have := (List.all_eq_true.1 h) x hx
    simpa using this
theorem dep_of {o : Oper} {listed : Array Bool} (h : ∀ e ∈ o.after, Region.binds md e = true → listed.getD e.on false = true) (j : Nat) (hj : (o.after.any fun e => e.on == j && Region.binds md e) = true) : listed.getD j false = true := by
  rw [← Array.any_toList, List.any_eq_true] at hj
  obtain ⟨e, he, h2⟩ := hj
  rw [Array.mem_toList_iff] at he
  simp only [Bool.and_eq_true, beq_iff_eq] at h2
  rw [← h2.1]
  exact h e he h2.2

/-- The obligations, operation by operation. -/
def Obs (Ob : Nat → Oper → Prop) : Nat → List Oper → Prop
  | _, [] => True
  | k, o :: l => Ob k o ∧ Obs Ob (k + 1) l
theorem Obs.get {Ob : Nat → Oper → Prop} {l : List Oper} : ∀ {k : Nat} (h : Obs Ob k l) (i : Nat) (o : Oper), l[i]? = some o → Ob (k + i) o := by
  induction l with
  | nil => intro k h i o e; cases i <;> cases e
  | cons o l ih =>
    intro k h i o' e
    obtain ⟨h1, h2⟩ := h
    cases i with
    | zero =>
      rw [List.getElem?_cons_zero] at e
      injection e with e
      rw [← e]
      exact h1
    | succ i =>
      rw [List.getElem?_cons_succ] at e
      have := ih h2 i o' e
      rwa [show k + (i + 1) = k + 1 + i by omega]
/-- One operation's: from whatever point at which it may come up. -/
def Ob (P : Program) (Q : Exit → Act → World → Prop) (md : Region.Mode) (l : List Oper) (fs : List Told) (a0 : Act) (w0 : World) (F0 : List Nat) (L G : List Res) (listed0 : Array Bool) (i : Nat) (o : Oper) : Prop :=
  ∀ (listed : Array Bool) (a : Act) (w : World), listed.getD i true = false → (∀ j, listed0.getD j false = true → listed.getD j false = true) →
    (∀ e ∈ o.after, Region.binds md e = true → listed.getD e.on false = true) → RInv fs a0 w0 F0 L G listed a w →
    opK P l.toArray Q o (fun a' w' => RInv fs a0 w0 F0 L G (listed.setIfInBounds i true) a' w') a w
theorem Ob.skip {listed0 : Array Bool} {i : Nat} {o : Oper} (h : listed0.getD i false = true) : Ob P Q md l fs a0 w0 F0 L G listed0 i o := by
  intro listed a w h1 h2 _ _
  have := h2 i h
  rcases Nat.lt_or_ge i listed.size with hi | hi
  · simp [Array.getD, hi] at h1 this
    rw [h1] at this
    cases this
  · have hn : ¬ i < listed.size := by omega
    simp [Array.getD, hn] at h1

/-- No edge that binds leads forward. -/
def backward (md : Region.Mode) : Nat → List Oper → Bool
  | _, [] => true
  | k, o :: l => (o.after.all fun e => !Region.binds md e || decide (e.on < k)) && backward md (k + 1) l
theorem backward_get {md : Region.Mode} {l : List Oper} : ∀ {k : Nat} (h : backward md k l = true) (i : Nat) (o : Oper), l[i]? = some o → ∀ e ∈ o.after, Region.binds md e = true → e.on < k + i := by
  induction l with
  | nil => intro k h i o e; cases i <;> cases e
  | cons o l ih =>
    intro k h i o' he
    unfold backward at h
    rw [Bool.and_eq_true] at h
    obtain ⟨h1, h2⟩ := h
    cases i with
    | zero =>
      rw [List.getElem?_cons_zero] at he
      injection he with he
      subst he
      intro e hm hb
      have h3 := Array.all_eq_true_iff_forall_mem.1 h1 e hm
      rw [hb] at h3
      simpa using h3
    | succ i =>
      rw [List.getElem?_cons_succ] at he
      intro e hm hb
      have := ih h2 i o' he e hm hb
      omega

theorem least_unlisted (listed : Array Bool) (n : Nat) : (∀ i, i < n → listed.getD i true = true) ∨ ∃ i, i < n ∧ listed.getD i true = false ∧ ∀ j, j < i → listed.getD j true = true := by
  induction n with
  | zero => left; intro i h; omega
  | succ n ih =>
    rcases ih with h | ⟨i, h1, h2, h3⟩
    · cases hn : listed.getD n true with
      | true =>
        left
        intro i hi
        by_cases e : i = n
        · rw [e, hn]
        · exact h i (by omega)
      | false => exact .inr ⟨n, by omega, hn, fun j hj => h j hj⟩
    · exact .inr ⟨i, by omega, h2, h3⟩
theorem getD_tf {listed : Array Bool} {i : Nat} (hi : i < listed.size) : listed.getD i true = listed.getD i false := by simp [Array.getD, hi]

theorem rinv {listed0 : Array Bool} (hb : backward md 0 l = true) (hobs : Obs (Ob P Q md l fs a0 w0 F0 L G listed0) 0 l)
    (hend : ∀ listed a w, (∀ i, i < l.length → listed.getD i false = true) → RInv fs a0 w0 F0 L G listed a w → Q .normal a w) :
    ∀ (fuel : Nat) (listed : Array Bool) (a : Act) (w : World), listed.size = l.length → (∀ j, listed0.getD j false = true → listed.getD j false = true) →
      (listed.toList.filter (! ·)).length ≤ fuel → RInv fs a0 w0 F0 L G listed a w → wpAnyH P md l.toArray Q (Ctx w0 F0 L G) fuel listed a w := by
  have hready : ∀ listed : Array Bool, listed.size = l.length → Region.ready md l.toArray listed = [] → ∀ i, i < l.length → listed.getD i false = true := by
    intro listed hsz hr i hi
    rcases least_unlisted listed l.length with h | ⟨k, h1, h2, h3⟩
    · rw [← getD_tf (by omega)]; exact h i hi
    · exfalso
      have hk : l.toArray[k]? = some l[k] := by simp [h1]
      have : k ∈ Region.ready md l.toArray listed := mem_ready.2 ⟨h2, l[k], hk, fun e he hbe => by
        have hlt := backward_get hb k l[k] (by simp [h1]) e he hbe
        rw [← getD_tf (by omega)]
        exact h3 _ (by omega)⟩
      rw [hr] at this
      cases this
  intro fuel
  induction fuel with
  | zero =>
    intro listed a w hsz hsub hc hI
    have hall : ∀ i, i < l.length → listed.getD i false = true := by
      intro i hi
      have h0 : listed.toList.filter (! ·) = [] := List.eq_nil_of_length_eq_zero (by omega)
      have hm : listed[i]'(by omega) ∈ listed.toList := by simp
      have := List.filter_eq_nil_iff.1 h0 _ hm
      simp [Array.getD, show i < listed.size by omega]
      simpa using this
    refine ⟨?_, hend listed a w hall hI⟩
    rcases h : Region.ready md l.toArray listed with _ | ⟨k, r⟩
    · rfl
    · exfalso
      have hk : k ∈ Region.ready md l.toArray listed := by rw [h]; simp
      obtain ⟨h1, o, ho, _⟩ := mem_ready.1 hk
      have hkl : k < l.length := by
        rcases Nat.lt_or_ge k l.length with h | h
        · exact h
        · simp [h] at ho
      have := hall k hkl
      rw [← getD_tf (by omega), h1] at this
      cases this
  | succ fuel ih =>
    intro listed a w hsz hsub hc hI
    refine ⟨fun h => hend listed a w (hready listed hsz h) hI, fun i hi => ?_⟩
    obtain ⟨h1, o, ho, hdeps⟩ := mem_ready.1 hi
    have ho' : l[i]? = some o := by simpa using ho
    have hil : i < l.length := by
      rcases Nat.lt_or_ge i l.length with h | h
      · exact h
      · simp [h] at ho'
    have hob := hobs.get i o ho'
    rw [Nat.zero_add] at hob
    have hk := hob listed a w h1 hsub hdeps hI
    refine wpOp_step ho fun K' hK' => ?_
    have hmono : ∀ a' w', RInv fs a0 w0 F0 L G (listed.setIfInBounds i true) a' w' → K' a' w' := by
      intro a' w' hI'
      refine hK' a' w' ⟨?_, ih _ a' w' (by simpa using hsz) ?_ ?_ hI'⟩
      · obtain ⟨G', hst, _⟩ := hI'.st
        exact ⟨[], G', by simpa using hst⟩
      · intro j hj
        have := hsub j hj
        by_cases e : i = j
        · subst e
          simp [Array.getD, show i < listed.size by omega]
        · rw [Array.getD_eq_getD_getElem?, Array.getElem?_setIfInBounds_ne e, ← Array.getD_eq_getD_getElem?]
          exact this
      · have hlt : i < listed.toList.length := by simpa using (by omega : i < listed.size)
        have hf : listed.toList[i] = false := by
          have := h1
          simp [Array.getD, show i < listed.size by omega] at this
          simpa using this
        have e1 : listed.toList = listed.toList.take i ++ listed.toList[i] :: listed.toList.drop (i + 1) := by
          rw [← List.drop_eq_getElem_cons hlt, List.take_append_drop]
        have e2 : (listed.setIfInBounds i true).toList = listed.toList.take i ++ true :: listed.toList.drop (i + 1) := by
          rw [Array.toList_setIfInBounds, List.set_eq_take_append_cons_drop, if_pos hlt]
        rw [e2]
        rw [e1, hf] at hc
        simp only [List.filter_append, List.filter_cons, List.length_append, Bool.not_false, Bool.not_true, if_true, List.length_cons] at hc
        simp only [List.filter_append, List.filter_cons, List.length_append, Bool.not_true]
        simp only [Bool.false_eq_true, if_false]
        omega
    unfold opK at hk
    split
    · rename_i hw
      rw [if_pos hw] at hk
      exact Oper.wp_mono hmono hk
    · rename_i hw
      rw [if_neg hw] at hk
      exact hmono _ _ hk
/-- The same from the point that stands. -/
theorem rinv0 {listed : Array Bool} {fuel : Nat} {w : World} (fs : List Told) (hb : backward md 0 l = true) (hsz : listed.size = l.length) (hf : (listed.toList.filter (! ·)).length ≤ fuel)
    (hst : St w0 F0 w L G) (hfs : (fs.all fun x => !listed.getD x.op false) = true) (hobs : Obs (Ob P Q md l fs a0 w0 F0 L G listed) 0 l)
    (hend : ∀ listed a w, (∀ i, i < l.length → listed.getD i false = true) → RInv fs a0 w0 F0 L G listed a w → Q .normal a w) : wpAnyH P md l.toArray Q (Ctx w0 F0 L G) fuel listed a0 w :=
  rinv hb hobs hend fuel listed a0 w hsz (fun _ h => h) hf ⟨rfl, rfl, fun _ _ => rfl, [], hst, fun x hx hl => by
    have := (List.all_eq_true.1 hfs) x hx
    rw [hl] at this
    cases this⟩
/-- A call of a function that is named, from whatever slots. -/
theorem opK_call {ops : Array Oper} {K : Act → World → Prop} {o : Oper} {a : Act} {w : World} {f : FuncId} {xs : Array Operand} {tys : Array TypeId} (hfc : ∀ args w, (callFunc f args).run P w = .ok (.enter f args) w) (hg : o.guard = none) (ho : o.op = .call { callee := .value (.func f), args := xs, argTypes := tys }) {R : Ending → World → Prop}
    (hc : Calls P f (xs.map a.eval) w R) (k : ∀ e w', R e w' → ∃ v, e = .returned v ∧ K (a.put o.dst v) w') : opK P ops Q o K a w :=
  wpl_call (by simp [Region.wanted, hg]) (by rw [show execOp a.eval o = callFunc f (#[] ++ xs.map a.eval ++ #[]) by rcases o with ⟨_, _, _, _, _, _⟩; simp only at ho; subst ho; rfl, hfc]; simp) hc k
end
end Go.Proofs.Ytkbkgpedpaodlaa.K
