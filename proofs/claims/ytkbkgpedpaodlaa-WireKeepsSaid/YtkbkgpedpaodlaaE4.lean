/- The base of this seat's walks, anew: panics, deferred calls, recover. -/
import Derived.Test.YtkbkgpedpaodlaaE3
import Derived.Recover
set_option linter.unusedVariables false
set_option linter.unusedSimpArgs false
namespace Go.Proofs.Ytkbkgpedpaodlaa.K
open Go.RowKit

section
variable {P : Program} {n : Fr} {c : Code} {Q : Post} {ρ : Env} {w0 w : World} {F0 : List Nat} {L G : List Res} {S : World → Prop} {ty t t' : TypeId} {x y : Operand}
/-- An operation that panics. -/
def XP (P : Program) (ρ : Env) (w : World) (op : Op) (ty : TypeId) (K : List PanicEntry → World → Prop) : Prop :=
  ∀ (a : Act) (ops : Array Oper) (Q : Exit → Act → World → Prop) (o : Oper) (next : Act → World → Prop), o.op = op → o.type = ty → a.eval = ev ρ → Region.wanted o (yielded ops a.tmps) = true → (∀ ch w', K ch w' → Q (.panic ch) a w') → opK P ops Q o next a w
theorem Ops.xp {i : Nat} {d : Option Nat} {op : Op} {ty : TypeId} {ps : String} {af : Array Edge} {gd : Option (Nat × Bool)} (ho : opat c i = some ⟨d, op, ty, ps, af, gd⟩) (hw : wants c ρ gd = true)
    (hx : XP P ρ w op ty (fun ch w' => Q (.panic ch) ρ w')) : Ops P n c Q i ρ w := by
  refine ⟨fun a ha => ?_⟩
  rw [opat_drop ho]
  refine wpList_opK ?_
  have hw' := wants_eq (c := c) (o := ⟨d, op, ty, ps, af, gd⟩) ha
  rw [hw] at hw'
  exact hx a (cOps c) (lift n Q) ⟨d, op, ty, ps, af, gd⟩ _ rfl rfl ha.eval hw' (fun ch w' h => ⟨ρ, ⟨ha.defers, fun t _ => ha.get t⟩, h⟩)
theorem XP.panic {t : TypeId} {v : Value} (hx : ev ρ x = .iface t v) {K : List PanicEntry → World → Prop} (k : K [{ v := .iface t v, recovered := false }] w) : XP P ρ w (.panic x) ty K := by
  intro a ops Q o next ho _ ha hw hk
  unfold opK
  rw [if_pos hw]
  unfold Oper.wp
  have : (execOp a.eval o).run P w = .halt (.panic (.iface t v)) w := by
    simp [execOp, ho, ha, hx, Instr.panic, goPanic]
  rw [this]
  exact hk _ _ k
theorem XP.call {f : FuncId} {xs : Array Operand} {tys : Array TypeId} (hfc : ∀ args w, (callFunc f args).run P w = .ok (.enter f args) w) {vs : List Value} (hv : (xs.toList.map (ev ρ)) = vs) {K : List PanicEntry → World → Prop} (hc : Calls P f vs.toArray w (fun e w' => ∃ ch, e = .panicked ch ∧ K ch w')) :
    XP P ρ w (.call { callee := .value (.func f), args := xs, argTypes := tys }) ty K := by
  intro a ops Q o next ho _ ha hw hk
  unfold opK
  rw [if_pos hw]
  unfold Oper.wp
  have : (execOp a.eval o).run P w = .ok (.enter f vs.toArray) w := by
    rw [show execOp a.eval o = callFunc f (#[] ++ xs.map a.eval ++ #[]) by rcases o with ⟨_, _, _, _, _, _⟩; simp only at ho; subst ho; rfl, hfc, ha]
    have e : #[] ++ xs.map (ev ρ) ++ #[] = vs.toArray := by
      subst hv; apply Array.ext'; simp
    rw [e]
  rw [this]
  refine hc.mono fun e w' h => ?_
  obtain ⟨ch, rfl, h⟩ := h
  exact hk _ _ h

/-! ### Deferred calls -/
/-- What a function hands back whose deferred calls are D; the slots below m are known where it panics. -/
def FQD (P : Program) (fn : Func) (R : Ending → World → Prop) (D : List Deferred) (m : Nat) : Post
  | .normal, ρ, w => ∀ (n : Fr) a, Is n a ρ → Leaves P fn a.tmps R D .returning w
  | .ret, ρ, w => ∀ (n : Fr) a, Is n a ρ → Leaves P fn a.tmps R D .returning w
  | .panic chain, ρ, w => ∀ tmps : Array Value, (∀ t, t < m → tmps.getD t undef = ρ t) → Leaves P fn tmps R D (.panicking chain) w
  | _, _, _ => False
structure DF (P : Program) (n : Fr) (fn : Func) (R : Ending → World → Prop) (c : Code) (ρ : Env) (w : World) : Prop where
  out : ∀ a, Is n a ρ → c.wp P (bodyPostD P fn R) a w
theorem W.funcD {f : FuncId} {fn : Func} {args : List Value} {R : Ending → World → Prop} {n : Nat} (hf : P.funcs[f]? = some fn) (hb : fn.body.isSome = true) (hn : fn.ntmps = n) (hl : Nat.ble args.length n = true)
    (ht : tag (fbody fn) = 3) (h : W P ⟨n, [], 0⟩ (cA (fbody fn)) (fun e ρ w => e = .normal ∧ DF P ⟨n, [], 0⟩ fn R (cB (fbody fn)) ρ w) (env args) w) : Calls P f args.toArray w R := by
  obtain ⟨c, hc⟩ := Option.isSome_iff_exists.1 hb
  have hle : args.length ≤ n := Nat.le_of_ble_eq_true hl
  refine calls_of_wp_defers hf hc ?_
  have hfb : fbody fn = c := by simp [fbody, hc]
  rw [hfb] at h ht
  have hIs : Is ⟨n, [], 0⟩ { tmps := args.toArray ++ Array.replicate (fn.ntmps - args.toArray.size) undef, defers := [] } (env args) := Is.enter hn hle
  cases c with
  | region _ _ b => cases b <;> cases ht
  | seq x y =>
    refine wp_seq (Code.wp_mono ?_ (h.out _ hIs))
    intro e a w hq
    cases e with
    | normal => obtain ⟨ρ', h1, _, h2⟩ := hq; exact h2.out a h1
    | _ => obtain ⟨ρ', _, h, _⟩ := hq; cases h
  | _ => cases ht
theorem DF.go {fn : Func} {R : Ending → World → Prop} {k m d : Nat} {g : FuncId} {caps : Array Operand} {cs : List Value} {ty0 ty1 : TypeId} {ps0 ps1 : String} {af0 af1 : Array Edge} (ht : tag c = 3) (ht1 : tag (cA c) = 1)
    (o0 : opat (cA c) 0 = some ⟨some d, .makeFunc (.func g) #[] caps, ty0, ps0, af0, none⟩)
    (o1 : opat (cA c) 1 = some ⟨none, .defer { callee := .value (.tmp d), args := #[], argTypes := #[] }, ty1, ps1, af1, none⟩) (o2 : opat (cA c) 2 = none)
    (hcs : caps.toList.map (ev ρ) = cs) (hd : Nat.blt d k = true)
    (h : W P ⟨k, [{ target := .fn (.func g) cs.toArray, args := #[] }], m⟩ (cB c) (FQD P fn R [{ target := .fn (.func g) cs.toArray, args := #[] }] m) (upd ρ d (.func (.func g) #[] cs.toArray)) w) : DF P ⟨k, [], 0⟩ fn R c ρ w := by
  refine ⟨fun a ha => ?_⟩
  have hdk : d < k := by simpa [Nat.blt_eq] using hd
  cases c with
  | region _ _ b => cases b <;> cases ht
  | seq x y =>
    refine wp_seq ?_
    change tag x = 1 at ht1
    cases x with
    | region id ops b =>
      cases b
      · refine wp_region_list ?_
        have hl : ops.toList = [⟨some d, .makeFunc (.func g) #[] caps, ty0, ps0, af0, none⟩, ⟨none, .defer { callee := .value (.tmp d), args := #[], argTypes := #[] }, ty1, ps1, af1, none⟩] := by
          have e0 := opat_drop o0
          have e1 := opat_drop o1
          have e2 : ((cOps (cA (Code.seq (Code.region id ops false) y))).toList).drop 2 = [] := by
            unfold opat at o2
            simp at o2
            simpa using o2
          simp only [Nat.zero_add, Nat.reduceAdd] at e0 e1
          rw [e1, e2] at e0
          exact e0
        rw [hl]
        refine wpList_opK ?_
        refine wpl (v := .func (.func g) #[] cs.toArray) (w' := w) (by rfl) ?_ ?_
        · rw [ha.eval]
          exact Y.makeFunc (S := fun _ => True) (fs := []) rfl hcs w trivial _ rfl rfl
        · have ha1 := ha.put hdk (.func (.func g) #[] cs.toArray)
          unfold wpList
          rw [if_pos (by rfl)]
          refine .inl ?_
          unfold Oper.wp
          have hev : ev (upd ρ d (.func (.func g) #[] cs.toArray)) (.tmp d) = .func (.func g) #[] cs.toArray := by
            show upd ρ d _ d = _
            unfold upd
            rw [Nat.beq_refl]
          have hr : (execOp (a.put (some d) (.func (.func g) #[] cs.toArray)).eval ⟨none, .defer { callee := .value (.tmp d), args := #[], argTypes := #[] }, ty1, ps1, af1, none⟩).run P w = .ok (.defer { target := .fn (.func g) cs.toArray, args := #[] }) w := by
            rw [ha1.eval]
            simp [execOp, resolve, hev, Deferred.ofValue]
          rw [hr]
          have ha2 : Is ⟨k, [{ target := .fn (.func g) cs.toArray, args := #[] }], m⟩ { (a.put (some d) (.func (.func g) #[] cs.toArray)) with defers := { target := .fn (.func g) cs.toArray, args := #[] } :: (a.put (some d) (.func (.func g) #[] cs.toArray)).defers } (upd ρ d (.func (.func g) #[] cs.toArray)) :=
            ⟨ha1.size, by rw [ha1.defers], ha1.get⟩
          refine Code.wp_mono ?_ (h.out _ ha2)
          intro e a' w' hq
          cases e with
          | normal => obtain ⟨ρ', h1, h2⟩ := hq; show Leaves P fn a'.tmps R a'.defers _ w'; rw [h1.defers]; exact h2 _ _ h1
          | ret => obtain ⟨ρ', h1, h2⟩ := hq; show Leaves P fn a'.tmps R a'.defers _ w'; rw [h1.defers]; exact h2 _ _ h1
          | panic ch => obtain ⟨ρ', ⟨h0, h1⟩, h2⟩ := hq; show Leaves P fn a'.tmps R a'.defers _ w'; rw [h0]; exact h2 _ h1
          | exit _ => obtain ⟨_, _, h⟩ := hq; exact h
          | goto _ => obtain ⟨_, _, h⟩ := hq; exact h
          | outgrown => obtain ⟨_, _, h⟩ := hq; exact h.elim
      · cases ht1
    | _ => cases ht1
  | _ => cases ht
/-! ### Interfaces -/
theorem Y.iface {fs : Array Field} {v : Value} (ht : P.underlying t = some (.struct fs)) (hx : ev ρ x = v) : Y P S ρ (.makeInterface t x) ty (.iface t v) := fun w _ o ho _ => by
  simp [execOp, ho, hx, Instr.makeInterface, run_underlying ht]
theorem Y.assertYes {fs : Array Field} {v : Value} (ht : P.underlying t' = some (.struct fs)) (hx : ev ρ x = .iface t' v) : Y P S ρ (.typeAssert x t t' true) ty (.tuple #[v, .bool true]) := fun w _ o ho _ => by
  simp [execOp, ho, hx, Instr.typeAssert, run_underlying ht]
theorem Y.assertNo {fs : Array Field} {z : Value} (ht : P.underlying t' = some (.struct fs)) (hz : ∀ w, (zeroValue t').run P w = .ok z w) (hx : ev ρ x = .nilIface) : Y P S ρ (.typeAssert x t t' true) ty (.tuple #[z, .bool false]) := fun w _ o ho _ => by
  simp [execOp, ho, hx, Instr.typeAssert, run_underlying ht, hz]
theorem Y.neNil {m : Array (String × TypeId)} (ht : P.underlying t = some (.interface m)) (hx : ev ρ x = .nilIface) : Y P S ρ (.binOp .neq t x (.const .nilIface) t') ty (.bool false) := fun w _ o ho _ => by
  have he : ∀ w, (eqGuard .neq t x (.const .nilIface) .nilIface .nilIface).run P w = .ok () w := fun w => by unfold eqGuard; simp
  have h2 : (Op.equalIn (9999 + 1) t .nilIface .nilIface).run P w = .ok true w := by
    rw [Op.equalIn]; simp [run_underlying ht]
  have h3 : (Go.binOp .neq t .nilIface .nilIface).run P w = .ok (.bool false) w := by
    have h4 : (Op.equal t .nilIface .nilIface).run P w = .ok true w := h2
    unfold binOp; simp only [Sem.run_bind, h4, Result.andThen_ok]; rfl
  have hy : ev ρ (.const .nilIface) = .nilIface := rfl
  simp only [execOp, ho, hx, hy]
  simp [he, h3]
/-! ### A deferred call that recovers -/
theorem wpOpsS_recover {ops : Array Oper} {Q : Exit → Act → List Frame → World → Prop} {i : Nat} {rest : List Nat} {o : Oper} {a : Act} {cs cs' : List Frame} {w w' : World} {v : Value} (ho : ops[i]? = some o) (hw : Region.wanted o (yielded ops a.tmps) = true)
    (hr : (execOp a.eval o).run P w = .ok .recover w') (hrec : recoverD cs = some (v, cs') ∨ (recoverD cs = none ∧ v = .nilIface ∧ cs' = cs)) (k : wpOpsS P ops Q rest (a.put o.dst v) cs' w') : wpOpsS P ops Q (i :: rest) a cs w := by
  unfold wpOpsS
  rw [ho]
  dsimp only
  rw [if_pos hw, hr]
  rcases hrec with h | ⟨h, rfl, rfl⟩
  · simp only [h]; exact k
  · simp only [h]; exact k
theorem wpOpsS_value {ops : Array Oper} {Q : Exit → Act → List Frame → World → Prop} {i : Nat} {rest : List Nat} {o : Oper} {a : Act} {cs : List Frame} {w : World} {v : Value} (ho : ops[i]? = some o) (hw : Region.wanted o (yielded ops a.tmps) = true)
    (hr : (execOp a.eval o).run P w = .ok (.value v) w) (k : wpOpsS P ops Q rest (a.put o.dst v) cs w) : wpOpsS P ops Q (i :: rest) a cs w := by
  unfold wpOpsS
  rw [ho]
  dsimp only
  rw [if_pos hw, hr]
  exact k
theorem W.funcR {f : FuncId} {fn : Func} {args : List Value} {R : Ending → FrameMode → World → Prop} {u u' : FrameMode} {v : Value} {n d d1 : Nat} {ty0 ty1 : TypeId} {ps0 ps1 : String} {af0 af1 : Array Edge} (hf : P.funcs[f]? = some fn) (hb : fn.body.isSome = true) (hn : fn.ntmps = n) (hl : Nat.ble args.length n = true)
    (ht : tag (fbody fn) = 3) (ht1 : tag (cA (fbody fn)) = 1)
    (o0 : opat (cA (fbody fn)) 0 = some ⟨some d, .call { callee := .builtin .recover, args := #[], argTypes := #[] }, ty0, ps0, af0, none⟩)
    (o1 : opat (cA (fbody fn)) 1 = some ⟨some d1, .assign (.tmp d), ty1, ps1, af1, none⟩) (o2 : opat (cA (fbody fn)) 2 = none) (hd : Nat.blt d n = true) (hd1 : Nat.blt d1 n = true)
    (hrec : (v = .nilIface ∧ u' = .returning ∧ u = .returning) ∨ (u = .panicking [{ v := v, recovered := false }] ∧ u' = .panicking [{ v := v, recovered := true }]))
    (h : W P ⟨n, [], 0⟩ (cB (fbody fn)) (FQ P fn (fun e w' => R e u' w')) (upd (upd (env args) d v) d1 v) w) : CallsD P f args.toArray u w R := by
  obtain ⟨c, hc⟩ := Option.isSome_iff_exists.1 hb
  have hle : args.length ≤ n := Nat.le_of_ble_eq_true hl
  refine callsD_of_wpS hf hc ?_
  intro c₀ cs hu
  have hfb : fbody fn = c := by simp [fbody, hc]
  rw [hfb] at h ht ht1 o0 o1 o2
  have hIs : Is ⟨n, [], 0⟩ { tmps := args.toArray ++ Array.replicate (fn.ntmps - args.toArray.size) undef, defers := [] } (env args) := Is.enter hn hle
  generalize ({ tmps := args.toArray ++ Array.replicate (fn.ntmps - args.toArray.size) undef, defers := [] } : Act) = a at hIs
  have hdn : d < n := by simpa [Nat.blt_eq] using hd
  have hd1n : d1 < n := by simpa [Nat.blt_eq] using hd1
  cases c with
  | region _ _ b => cases b <;> cases ht
  | seq x y =>
    refine wpS_seq ?_
    change tag x = 1 at ht1
    cases x with
    | region id ops b =>
      cases b
      · refine wpS_region ?_
        have hl : ops.toList = [⟨some d, .call { callee := .builtin .recover, args := #[], argTypes := #[] }, ty0, ps0, af0, none⟩, ⟨some d1, .assign (.tmp d), ty1, ps1, af1, none⟩] := by
          have e0 := opat_drop o0
          have e1 := opat_drop o1
          have e2 : ((cOps (cA (Code.seq (Code.region id ops false) y))).toList).drop 2 = [] := by
            unfold opat at o2
            simp at o2
            simpa using o2
          simp only [Nat.zero_add, Nat.reduceAdd] at e0 e1
          rw [e1, e2] at e0
          exact e0
        have hops : ops = #[⟨some d, .call { callee := .builtin .recover, args := #[], argTypes := #[] }, ty0, ps0, af0, none⟩, ⟨some d1, .assign (.tmp d), ty1, ps1, af1, none⟩] := Array.ext' hl
        subst hops
        have hrd : recoverD (c₀ :: cs) = some (v, { c₀ with mode := u' } :: cs) ∨ (recoverD (c₀ :: cs) = none ∧ v = .nilIface ∧ { c₀ with mode := u' } :: cs = c₀ :: cs) := by
          rcases hrec with ⟨h1, h2, h3⟩ | ⟨h1, h2⟩
          · refine .inr ⟨?_, h1, ?_⟩
            · simp [recoverD, hu, h3]
            · rw [h2, ← h3, ← hu]
          · refine .inl ?_
            subst h2
            rw [h1] at hu
            simp [recoverD, hu]
        refine wpOpsS_recover (i := 0) (o := ⟨some d, .call { callee := .builtin .recover, args := #[], argTypes := #[] }, ty0, ps0, af0, none⟩) (w' := w) rfl (by rfl) ?_ hrd ?_
        · simp [execOp, resolve, invoke, builtin]
        · have h1 := hIs.put hdn v
          refine wpOpsS_value (i := 1) (o := ⟨some d1, .assign (.tmp d), ty1, ps1, af1, none⟩) (v := v) rfl (by rfl) ?_ ?_
          · rw [h1.eval]
            have : ev (upd (env args) d v) (.tmp d) = v := by
              show upd _ d v d = v
              unfold upd; rw [Nat.beq_refl]
            simp [execOp, this]
          · have h2 := h1.put hd1n v
            refine wpS_of_wp (Code.wp_mono ?_ (h.out _ h2))
            intro e a' w' hq
            cases e with
            | normal => obtain ⟨ρ', h1, v, h2, h3⟩ := hq; exact ⟨h1.defers, u', rfl, v, h2 _ _ h1, h3⟩
            | ret => obtain ⟨ρ', h1, v, h2, h3⟩ := hq; exact ⟨h1.defers, u', rfl, v, h2 _ _ h1, h3⟩
            | panic ch => obtain ⟨ρ', ⟨h1, _⟩, h2⟩ := hq; exact ⟨h1, u', rfl, h2⟩
            | exit _ => obtain ⟨_, _, h⟩ := hq; exact h
            | goto _ => obtain ⟨_, _, h⟩ := hq; exact h
            | outgrown => obtain ⟨_, _, h⟩ := hq; exact h.elim
      · cases ht1
    | _ => cases ht1
  | _ => cases ht
end
end Go.Proofs.Ytkbkgpedpaodlaa.K
