/- What the proof rests on, part 2. -/
import Derived.Test.YtaanjifekgfemaaGreatM1
set_option linter.unusedVariables false
set_option linter.unusedSimpArgs false
set_option linter.unusedSectionVars false
section
namespace Go.Proofs.YtaanjifekgfemaaGreat.K
open Tryz
open Go.RowKit
section
variable {P : Program} {n : Fr} {c : Code} {Q : Post} {ρ : Env} {w0 w : World} {F0 : List Nat} {L G : List Res} {S : World → Prop} {ty t t' : TypeId} {x y : Operand}
def XP (P : Program) (ρ : Env) (w : World) (op : Op) (ty : TypeId) (K : List PanicEntry → World → Prop) : Prop :=
  ∀ (a : Act) (ops : Array Oper) (Q : Exit → Act → World → Prop) (o : Oper) (next : Act → World → Prop), o.op = op → o.type = ty → a.eval = ev ρ → Region.wanted o (yielded ops a.tmps) = true → (∀ ch w', K ch w' → Q (.panic ch) a w') → opK P ops Q o next a w
theorem Ops.xp {i : Nat} {d : Option Nat} {op : Op} {ty : TypeId} {ps : String} {af : Array Edge} {gd : Option (Nat × Bool)} (ho : opat c i = some ⟨d, op, ty, ps, af, gd⟩) (hw : wants c ρ gd = true)
    (hx : XP P ρ w op ty (fun ch w' => Q (.panic ch) ρ w')) : Ops P n c Q i ρ w := by
  refine ⟨fun a ha => ?_⟩; rw [opat_drop ho]; refine wpList_opK ?_; have hw' := wants_eq (c := c) (o := ⟨d, op, ty, ps, af, gd⟩) ha; rw [hw] at hw'; exact hx a (cOps c) (lift n Q) ⟨d, op, ty, ps, af, gd⟩ _ rfl rfl ha.eval hw' (fun ch w' h => ⟨ρ, ⟨ha.defers, fun t _ => ha.get t⟩, h⟩)
theorem XP.panic {t : TypeId} {v : Value} (hx : ev ρ x = .iface t v) {K : List PanicEntry → World → Prop} (k : K [{ v := .iface t v, recovered := false }] w) : XP P ρ w (.panic x) ty K := by
  intro a ops Q o next ho _ ha hw hk; unfold opK; rw [if_pos hw]; unfold Oper.wp
  have : (execOp a.eval o).run P w = .halt (.panic (.iface t v)) w := by
    simp [execOp, ho, ha, hx, Instr.panic, goPanic]
  rw [this]; exact hk _ _ k
theorem XP.call {f : FuncId} {xs : Array Operand} {tys : Array TypeId} (hfc : ∀ args w, (callFunc f args).run P w = .ok (.enter f args) w) {vs : List Value} (hv : (xs.toList.map (ev ρ)) = vs) {K : List PanicEntry → World → Prop} (hc : Calls P f vs.toArray w (fun e w' => ∃ ch, e = .panicked ch ∧ K ch w')) :
    XP P ρ w (.call { callee := .value (.func f), args := xs, argTypes := tys }) ty K := by
  intro a ops Q o next ho _ ha hw hk; unfold opK; rw [if_pos hw]; unfold Oper.wp
  have : (execOp a.eval o).run P w = .ok (.enter f vs.toArray) w := by
    rw [show execOp a.eval o = callFunc f (#[] ++ xs.map a.eval ++ #[]) by rcases o with ⟨_, _, _, _, _, _⟩; simp only at ho; subst ho; rfl, hfc, ha]
    have e : #[] ++ xs.map (ev ρ) ++ #[] = vs.toArray := by
      subst hv; apply Array.ext'; simp
    rw [e]
  rw [this]; refine hc.mono fun e w' h => ?_; obtain ⟨ch, rfl, h⟩ := h; exact hk _ _ h
def FQD (P : Program) (fn : Func) (R : Ending → World → Prop) (D : List Deferred) (m : Nat) : Post
  | .normal, ρ, w => ∀ (n : Fr) a, Is n a ρ → Leaves P fn a.tmps R D .returning w
  | .ret, ρ, w => ∀ (n : Fr) a, Is n a ρ → Leaves P fn a.tmps R D .returning w
  | .panic chain, ρ, w => ∀ tmps : Array Value, (∀ t, t < m → tmps.getD t undef = ρ t) → Leaves P fn tmps R D (.panicking chain) w
  | _, _, _ => False
structure DF (P : Program) (n : Fr) (fn : Func) (R : Ending → World → Prop) (c : Code) (ρ : Env) (w : World) : Prop where
  out : ∀ a, Is n a ρ → c.wp P (bodyPostD P fn R) a w
theorem W.funcD {f : FuncId} {fn : Func} {args : List Value} {R : Ending → World → Prop} {n : Nat} (hf : P.funcs[f]? = some fn) (hb : fn.body.isSome = true) (hn : fn.ntmps = n) (hl : Nat.ble args.length n = true)
    (ht : tag (fbody fn) = 3) (h : W P ⟨n, [], 0⟩ (cA (fbody fn)) (fun e ρ w => e = .normal ∧ DF P ⟨n, [], 0⟩ fn R (cB (fbody fn)) ρ w) (env args) w) : Calls P f args.toArray w R := by
  obtain ⟨c, hc⟩ := Option.isSome_iff_exists.1 hb; have hle : args.length ≤ n := Nat.le_of_ble_eq_true hl; refine calls_of_wp_defers hf hc ?_; have hfb : fbody fn = c := by simp [fbody, hc]
  rw [hfb] at h ht; have hIs : Is ⟨n, [], 0⟩ { tmps := args.toArray ++ Array.replicate (fn.ntmps - args.toArray.size) undef, defers := [] } (env args) := Is.enter hn hle
  cases c with
  | region _ _ b => cases b <;> cases ht
  | seq x y =>
    refine wp_seq (Code.wp_mono ?_ (h.out _ hIs)); intro e a w hq
    cases e with
    | normal => obtain ⟨ρ', h1, _, h2⟩ := hq; exact h2.out a h1
    | _ => obtain ⟨ρ', _, h, _⟩ := hq; cases h
  | _ => cases ht
theorem DF.go {fn : Func} {R : Ending → World → Prop} {k m d : Nat} {g : FuncId} {caps : Array Operand} {cs : List Value} {ty0 ty1 : TypeId} {ps0 ps1 : String} {af0 af1 : Array Edge} (ht : tag c = 3) (ht1 : tag (cA c) = 1)
    (o0 : opat (cA c) 0 = some ⟨some d, .makeFunc (.func g) #[] caps, ty0, ps0, af0, none⟩)
    (o1 : opat (cA c) 1 = some ⟨none, .defer { callee := .value (.tmp d), args := #[], argTypes := #[] }, ty1, ps1, af1, none⟩) (o2 : opat (cA c) 2 = none)
    (hcs : caps.toList.map (ev ρ) = cs) (hd : Nat.blt d k = true)
    (h : W P ⟨k, [{ target := .fn (.func g) cs.toArray, args := #[] }], m⟩ (cB c) (FQD P fn R [{ target := .fn (.func g) cs.toArray, args := #[] }] m) (upd ρ d (.func (.func g) #[] cs.toArray)) w) : DF P ⟨k, [], 0⟩ fn R c ρ w := by
  refine ⟨fun a ha => ?_⟩; have hdk : d < k := by simpa [Nat.blt_eq] using hd
  cases c with
  | region _ _ b => cases b <;> cases ht
  | seq x y =>
    refine wp_seq ?_; change tag x = 1 at ht1
    cases x with
    | region id ops b =>
      cases b
      · refine wp_region_list ?_
        have hl : ops.toList = [⟨some d, .makeFunc (.func g) #[] caps, ty0, ps0, af0, none⟩, ⟨none, .defer { callee := .value (.tmp d), args := #[], argTypes := #[] }, ty1, ps1, af1, none⟩] := by
          have e0 := opat_drop o0; have e1 := opat_drop o1
          have e2 : ((cOps (cA (Code.seq (Code.region id ops false) y))).toList).drop 2 = [] := by
            unfold opat at o2; simp at o2; simpa using o2
          simp only [Nat.zero_add, Nat.reduceAdd] at e0 e1; rw [e1, e2] at e0; exact e0
        rw [hl]; refine wpList_opK ?_; refine wpl (v := .func (.func g) #[] cs.toArray) (w' := w) (by rfl) ?_ ?_
        · rw [ha.eval]; exact Y.makeFunc (S := fun _ => True) (fs := []) rfl hcs w trivial _ rfl rfl
        · have ha1 := ha.put hdk (.func (.func g) #[] cs.toArray); unfold wpList; rw [if_pos (by rfl)]; refine .inl ?_; unfold Oper.wp
          have hev : ev (upd ρ d (.func (.func g) #[] cs.toArray)) (.tmp d) = .func (.func g) #[] cs.toArray := by
            show upd ρ d _ d = _; unfold upd; rw [Nat.beq_refl]
          have hr : (execOp (a.put (some d) (.func (.func g) #[] cs.toArray)).eval ⟨none, .defer { callee := .value (.tmp d), args := #[], argTypes := #[] }, ty1, ps1, af1, none⟩).run P w = .ok (.defer { target := .fn (.func g) cs.toArray, args := #[] }) w := by
            rw [ha1.eval]; simp [execOp, resolve, hev, Deferred.ofValue]
          rw [hr]
          have ha2 : Is ⟨k, [{ target := .fn (.func g) cs.toArray, args := #[] }], m⟩ { (a.put (some d) (.func (.func g) #[] cs.toArray)) with defers := { target := .fn (.func g) cs.toArray, args := #[] } :: (a.put (some d) (.func (.func g) #[] cs.toArray)).defers } (upd ρ d (.func (.func g) #[] cs.toArray)) :=
            ⟨ha1.size, by rw [ha1.defers], ha1.get⟩
          refine Code.wp_mono ?_ (h.out _ ha2); intro e a' w' hq
          cases e with
          | normal => obtain ⟨ρ', h1, h2⟩ := hq; show Leaves P fn a'.tmps R a'.defers _ w'; rw [h1.defers]; exact h2 _ _ h1
          | ret => obtain ⟨ρ', h1, h2⟩ := hq; show Leaves P fn a'.tmps R a'.defers _ w'; rw [h1.defers]; exact h2 _ _ h1
          | panic ch => obtain ⟨ρ', ⟨h0, h1⟩, h2⟩ := hq; show Leaves P fn a'.tmps R a'.defers _ w'; rw [h0]; exact h2 _ h1
          | exit _ => obtain ⟨_, _, h⟩ := hq; exact h
          | goto _ => obtain ⟨_, _, h⟩ := hq; exact h
          | outgrown => obtain ⟨_, _, h⟩ := hq; exact h.elim
      · cases ht1
    | _ => cases ht1
  | _ => cases ht
theorem Y.iface {fs : Array Field} {v : Value} (ht : P.underlying t = some (.struct fs)) (hx : ev ρ x = v) : Y P S ρ (.makeInterface t x) ty (.iface t v) := fun w _ o ho _ => by
  simp [execOp, ho, hx, Instr.makeInterface, run_underlying ht]
theorem Y.assertYes {fs : Array Field} {v : Value} (ht : P.underlying t' = some (.struct fs)) (hx : ev ρ x = .iface t' v) : Y P S ρ (.typeAssert x t t' true) ty (.tuple #[v, .bool true]) := fun w _ o ho _ => by
  simp [execOp, ho, hx, Instr.typeAssert, run_underlying ht]
theorem Y.assertNo {fs : Array Field} {z : Value} (ht : P.underlying t' = some (.struct fs)) (hz : ∀ w, (zeroValue t').run P w = .ok z w) (hx : ev ρ x = .nilIface) : Y P S ρ (.typeAssert x t t' true) ty (.tuple #[z, .bool false]) := fun w _ o ho _ => by
  simp [execOp, ho, hx, Instr.typeAssert, run_underlying ht, hz]
theorem Y.neNil {m : Array (String × TypeId)} (ht : P.underlying t = some (.interface m)) (hx : ev ρ x = .nilIface) : Y P S ρ (.binOp .neq t x (.const .nilIface) t') ty (.bool false) := fun w _ o ho _ => by
  have he : ∀ w, (eqGuard .neq t x (.const .nilIface) .nilIface .nilIface).run P w = .ok () w := fun w => by unfold eqGuard; simp
  have h2 : (Op.equalIn (9999 + 1) t .nilIface .nilIface).run P w = .ok true w := by
    rw [Op.equalIn]; simp [run_underlying ht]
  have h3 : (Go.binOp .neq t .nilIface .nilIface).run P w = .ok (.bool false) w := by
    have h4 : (Op.equal t .nilIface .nilIface).run P w = .ok true w := h2; unfold binOp; simp only [Sem.run_bind, h4, Result.andThen_ok]; rfl
  have hy : ev ρ (.const .nilIface) = .nilIface := rfl; simp only [execOp, ho, hx, hy]; simp [he, h3]
theorem wpOpsS_recover {ops : Array Oper} {Q : Exit → Act → List Frame → World → Prop} {i : Nat} {rest : List Nat} {o : Oper} {a : Act} {cs cs' : List Frame} {w w' : World} {v : Value} (ho : ops[i]? = some o) (hw : Region.wanted o (yielded ops a.tmps) = true)
    (hr : (execOp a.eval o).run P w = .ok .recover w') (hrec : recoverD cs = some (v, cs') ∨ (recoverD cs = none ∧ v = .nilIface ∧ cs' = cs)) (k : wpOpsS P ops Q rest (a.put o.dst v) cs' w') : wpOpsS P ops Q (i :: rest) a cs w := by
  unfold wpOpsS; rw [ho]; dsimp only; rw [if_pos hw, hr]; rcases hrec with h | ⟨h, rfl, rfl⟩
  · simp only [h]; exact k
  · simp only [h]; exact k
theorem wpOpsS_value {ops : Array Oper} {Q : Exit → Act → List Frame → World → Prop} {i : Nat} {rest : List Nat} {o : Oper} {a : Act} {cs : List Frame} {w : World} {v : Value} (ho : ops[i]? = some o) (hw : Region.wanted o (yielded ops a.tmps) = true)
    (hr : (execOp a.eval o).run P w = .ok (.value v) w) (k : wpOpsS P ops Q rest (a.put o.dst v) cs w) : wpOpsS P ops Q (i :: rest) a cs w := by
  unfold wpOpsS; rw [ho]; dsimp only; rw [if_pos hw, hr]; exact k
theorem W.funcR {f : FuncId} {fn : Func} {args : List Value} {R : Ending → FrameMode → World → Prop} {u u' : FrameMode} {v : Value} {n d d1 : Nat} {ty0 ty1 : TypeId} {ps0 ps1 : String} {af0 af1 : Array Edge} (hf : P.funcs[f]? = some fn) (hb : fn.body.isSome = true) (hn : fn.ntmps = n) (hl : Nat.ble args.length n = true)
    (ht : tag (fbody fn) = 3) (ht1 : tag (cA (fbody fn)) = 1)
    (o0 : opat (cA (fbody fn)) 0 = some ⟨some d, .call { callee := .builtin .recover, args := #[], argTypes := #[] }, ty0, ps0, af0, none⟩)
    (o1 : opat (cA (fbody fn)) 1 = some ⟨some d1, .assign (.tmp d), ty1, ps1, af1, none⟩) (o2 : opat (cA (fbody fn)) 2 = none) (hd : Nat.blt d n = true) (hd1 : Nat.blt d1 n = true)
    (hrec : (v = .nilIface ∧ u' = .returning ∧ u = .returning) ∨ (u = .panicking [{ v := v, recovered := false }] ∧ u' = .panicking [{ v := v, recovered := true }]))
    (h : W P ⟨n, [], 0⟩ (cB (fbody fn)) (FQ P fn (fun e w' => R e u' w')) (upd (upd (env args) d v) d1 v) w) : CallsD P f args.toArray u w R := by
  obtain ⟨c, hc⟩ := Option.isSome_iff_exists.1 hb; have hle : args.length ≤ n := Nat.le_of_ble_eq_true hl; refine callsD_of_wpS hf hc ?_; intro c₀ cs hu; have hfb : fbody fn = c := by simp [fbody, hc]
  rw [hfb] at h ht ht1 o0 o1 o2; have hIs : Is ⟨n, [], 0⟩ { tmps := args.toArray ++ Array.replicate (fn.ntmps - args.toArray.size) undef, defers := [] } (env args) := Is.enter hn hle; generalize ({ tmps := args.toArray ++ Array.replicate (fn.ntmps - args.toArray.size) undef, defers := [] } : Act) = a at hIs; have hdn : d < n := by simpa [Nat.blt_eq] using hd
  have hd1n : d1 < n := by simpa [Nat.blt_eq] using hd1
  cases c with
  | region _ _ b => cases b <;> cases ht
  | seq x y =>
    refine wpS_seq ?_; change tag x = 1 at ht1
    cases x with
    | region id ops b =>
      cases b
      · refine wpS_region ?_
        have hl : ops.toList = [⟨some d, .call { callee := .builtin .recover, args := #[], argTypes := #[] }, ty0, ps0, af0, none⟩, ⟨some d1, .assign (.tmp d), ty1, ps1, af1, none⟩] := by
          have e0 := opat_drop o0; have e1 := opat_drop o1
          have e2 : ((cOps (cA (Code.seq (Code.region id ops false) y))).toList).drop 2 = [] := by
            unfold opat at o2; simp at o2; simpa using o2
          simp only [Nat.zero_add, Nat.reduceAdd] at e0 e1; rw [e1, e2] at e0; exact e0
        have hops : ops = #[⟨some d, .call { callee := .builtin .recover, args := #[], argTypes := #[] }, ty0, ps0, af0, none⟩, ⟨some d1, .assign (.tmp d), ty1, ps1, af1, none⟩] := Array.ext' hl; subst hops
        have hrd : recoverD (c₀ :: cs) = some (v, { c₀ with mode := u' } :: cs) ∨ (recoverD (c₀ :: cs) = none ∧ v = .nilIface ∧ { c₀ with mode := u' } :: cs = c₀ :: cs) := by
          rcases hrec with ⟨h1, h2, h3⟩ | ⟨h1, h2⟩
          · refine .inr ⟨?_, h1, ?_⟩
            · simp [recoverD, hu, h3]
            · rw [h2, ← h3, ← hu]
          · refine .inl ?_; subst h2; rw [h1] at hu; simp [recoverD, hu]
        refine wpOpsS_recover (i := 0) (o := ⟨some d, .call { callee := .builtin .recover, args := #[], argTypes := #[] }, ty0, ps0, af0, none⟩) (w' := w) rfl (by rfl) ?_ hrd ?_
        · simp [execOp, resolve, invoke, builtin]
        · have h1 := hIs.put hdn v; refine wpOpsS_value (i := 1) (o := ⟨some d1, .assign (.tmp d), ty1, ps1, af1, none⟩) (v := v) rfl (by rfl) ?_ ?_
          · rw [h1.eval]
            have : ev (upd (env args) d v) (.tmp d) = v := by
              show upd _ d v d = v; unfold upd; rw [Nat.beq_refl]
            simp [execOp, this]
          · have h2 := h1.put hd1n v; refine wpS_of_wp (Code.wp_mono ?_ (h.out _ h2)); intro e a' w' hq
            cases e with
            | normal => obtain ⟨ρ', h1, v, h2, h3⟩ := hq; exact ⟨h1.defers, u', rfl, v, h2 _ _ h1, h3⟩
            | ret => obtain ⟨ρ', h1, v, h2, h3⟩ := hq; exact ⟨h1.defers, u', rfl, v, h2 _ _ h1, h3⟩
            | panic ch => obtain ⟨ρ', ⟨h1, _⟩, h2⟩ := hq; exact ⟨h1, u', rfl, h2⟩
            | exit _ => obtain ⟨_, _, h⟩ := hq; exact h
            | goto _ => obtain ⟨_, _, h⟩ := hq; exact h
            | outgrown => obtain ⟨_, _, h⟩ := hq; exact h.elim
      · cases ht1
    | _ => cases ht1
  | _ => cases ht
end
end Go.Proofs.YtaanjifekgfemaaGreat.K
end
section
namespace Go.Proofs.YtaanjifekgfemaaGreat.W
open Tryz
open Go.RowKit Go.Proofs.YtaanjifekgfemaaGreat.K Go.Proofs.YtaanjifekgfemaaGreat.CM
def faultV (er : Int) : Value := .iface 169 (.agg #[.int .i64 er])
def zms : List Value := [.int .i64 0, .int .i64 0, .int .i64 0, .int .i64 0, .int .i64 0, .int .i64 0, .bool false, .bool false, .int .i64 0, .int .i64 0, .int .i64 0, .int .i64 0, .int .i64 0, .slice none 0 0]
theorem bd103_ {S ρ ty} {parts : Array (Nat × Operand)}  (hp : (parts.toList.map fun x => (x.1, ev ρ x.2)) = []) : Y Tryz.prog S ρ (.build 103 parts) ty (.agg #[Value.int .i64 0, Value.int .i64 0, Value.int .i64 0, Value.int .i64 0, Value.int .i64 0, Value.int .i64 0, Value.bool false, Value.bool false, Value.int .i64 0, Value.int .i64 0, Value.int .i64 0, Value.int .i64 0, Value.int .i64 0, Value.slice none 0 0]) :=
  Y.build hp fun w => by simp [Instr.build, go_sem]
theorem bd169_0 {S ρ ty} {parts : Array (Nat × Operand)} {x0 : Int} (hp : (parts.toList.map fun x => (x.1, ev ρ x.2)) = [(0, Value.int .i64 x0)]) : Y Tryz.prog S ρ (.build 169 parts) ty (.agg #[Value.int .i64 x0]) :=
  Y.build hp fun w => by simp [Instr.build, go_sem]
theorem fa169_0 : FA 169 0 0 := fun _ _ => by simp [Instr.fieldAt, Instr.sureAddr, go_sem]
theorem must_T (er : Int) (Wd : World) : Calls Tryz.prog 82 #[.bool true, .int .i64 er] Wd fun e w' => e = .returned (.tuple #[]) ∧ Wd = w' := by
  refine W.func func82 rfl ntmps82 rfl<|W.sr rfl<|Ops.y rfl rfl rfl (any _) (Y.moveB rfl)<|Ops.y rfl rfl rfl (any _) (Y.not rfl)<|Ops.done rfl<|W.condF rfl rfl<|W.skip rfl<|⟨_, Rslt.none results82, ?_⟩; exact ⟨rfl, rfl⟩
theorem must_F (er : Int) (Wd : World) : Calls Tryz.prog 82 #[.bool false, .int .i64 er] Wd fun e w' => e = .panicked [{ v := faultV er, recovered := false }] ∧ Wd = w' := by
  refine W.func func82 rfl ntmps82 rfl<|W.sr rfl<|Ops.y rfl rfl rfl (any _) (Y.moveB rfl)<|Ops.y rfl rfl rfl (any _) (Y.not rfl)<|Ops.done rfl<|W.condT rfl rfl<|W.region rfl<|Ops.y rfl rfl rfl (any _) (Y.moveI rfl)<|Ops.y rfl rfl rfl (any _) (bd169_0 rfl)<|Ops.y rfl rfl rfl (any _) (Y.iface underlying169 rfl)<|Ops.xp rfl rfl (XP.panic rfl<|?_); exact ⟨rfl, rfl⟩
theorem rec_nil (pm pe : Value) (w0 w : World) (F0 : List Nat) (L G : List Res) (hst : St w0 F0 w L G) :
    CallsD Tryz.prog 81 #[pm, pe] .returning w fun e u' w' => e = .returned (.tuple #[]) ∧ u' = .returning ∧ St w0 F0 w' L G := by
  refine W.funcR (args := [_, _]) func81 rfl ntmps81 rfl rfl rfl rfl rfl rfl rfl rfl (.inl ⟨rfl, rfl, rfl⟩)<|W.sr rfl<|hst.y rfl (Y.moveV rfl)<|hst.y rfl (Y.assertNo underlying169 zeroValue169 rfl)<|hst.y rfl (Y.moveU rfl)<|hst.y rfl (Y.extract rfl rfl)<|hst.y rfl (Y.extract rfl rfl)<|Ops.ww rfl (X.allocA hst zeroValue169<|?_); clear hst; intro p3 w3 hst; refine Ops.ww rfl (X.storeS hst 0 sizeOf169 rfl rfl rfl rfl rfl (lZ rfl) rfl rfl ?_); clear hst; intro w1_6 hst
  try simp only [List.set_cons_zero, List.set_cons_succ, Nat.zero_add, Nat.reduceAdd, splice, List.take, List.drop, List.append_eq, List.nil_append, List.cons_append, List.length_cons, List.length_nil] at hst
  refine hst.y rfl (Y.assignB rfl)<|Ops.ds rfl rfl<|hst.y rfl (Y.moveB rfl)<|Ops.done rfl<|W.condF rfl rfl<|W.sr rfl<|hst.y rfl (Y.moveV rfl)<|hst.y rfl (Y.neNil underlying20 rfl)<|Ops.done rfl<|W.condF rfl rfl<|W.skip rfl<|⟨_, Rslt.none results81, ?_⟩; exact ⟨rfl, rfl, hst.drop⟩
theorem rec_fault (bm be : Nat) (ms : List Value) (hms : ms.length = 14) (v0 : Value) (er : Int) (w0 w : World) (F0 : List Nat) (L G : List Res) (hst : St w0 F0 w (cellsR bm ms 103 :: cellsR be [v0] 44 :: L) G) :
    CallsD Tryz.prog 81 #[.pointer (some ⟨bm, 0, none⟩), .pointer (some ⟨be, 0, none⟩)] (.panicking [{ v := faultV er, recovered := false }]) w fun e u' w' => e = .returned (.tuple #[]) ∧ u' = .panicking [{ v := faultV er, recovered := true }] ∧
      St w0 F0 w' (cellsR bm zms 103 :: cellsR be [.int .i64 er] 44 :: L) G := by
  refine W.funcR (args := [_, _]) func81 rfl ntmps81 rfl rfl rfl rfl rfl rfl rfl rfl (.inr ⟨rfl, rfl⟩)<|W.sr rfl<|hst.y rfl (Y.moveV rfl)<|hst.y rfl (Y.assertYes underlying169 rfl)<|hst.y rfl (Y.moveU rfl)<|hst.y rfl (Y.extract rfl rfl)<|hst.y rfl (Y.extract rfl rfl)<|Ops.ww rfl (X.allocA hst zeroValue169<|?_); clear hst; intro p3 w3 hst; refine Ops.ww rfl (X.storeS hst 0 sizeOf169 rfl rfl rfl rfl rfl (lZ rfl) rfl rfl ?_); clear hst; intro w1_6 hst
  try simp only [List.set_cons_zero, List.set_cons_succ, Nat.zero_add, Nat.reduceAdd, splice, List.take, List.drop, List.append_eq, List.nil_append, List.cons_append, List.length_cons, List.length_nil] at hst
  refine hst.y rfl (Y.assignB rfl)<|Ops.ds rfl rfl<|hst.y rfl (Y.moveB rfl)<|Ops.done rfl<|W.condT rfl rfl<|?_; replace hst := hst.toFact; refine W.drawn rfl (by kernel_rfl) (Ctx _ _ (L) (_)) [] (T0 [0,1,2] (T1 [3,4] .nil)) rfl (by kernel_rfl) hst.drew.ctx2 ?_; replace hst := hst.drew; generalize World.drew _ = wd at hst ⊢; refine Drw.q rfl hst.ctx2 (bd103_ rfl) ?_
  first
  | refine Drw.q rfl hst.ctx2 (Y.fieldAddr fa169_0 rfl) ?_
  | refine Drw.q rfl hst.ctx2 (Y.fieldAddrP fa169_0 rfl) ?_
  first
  | refine Drw.q rfl hst.ctx2 (Y.load 0 isAgg44 rfl rfl rfl) ?_
  | refine Drw.q rfl hst.ctx2 (Y.loadG 0 isAgg44 rfl rfl rfl) ?_
  refine Drw.ww rfl (X.storeS hst 0 sizeOf103 rfl rfl (vs := zms) rfl rfl rfl (by rw [hms]; exact Nat.le_refl _) (cs' := zms) (by unfold splice; simp [zms, hms]) rfl ?_); clear hst; intro w33 hst; refine ⟨hst.ctx2, Drw.ww rfl (X.storeV hst 1 (.int _ _) sizeOf44 rfl rfl rfl rfl (lZ rfl) rfl rfl<|?_)⟩; clear hst; intro w34 hst; refine ⟨hst.ctx2, Drw.done<|⟨_, Rslt.none results81, ?_⟩⟩; exact ⟨rfl, rfl, hst.forget⟩
def rdn (l : List UInt8) : Nat := l.foldl (fun a c => a * 256 + c.toNat) 0
theorem rdn_snoc (l : List UInt8) (c : UInt8) : rdn (l ++ [c]) = rdn l * 256 + c.toNat := by simp [rdn]
theorem rdn_lt (l : List UInt8) : rdn l < 256 ^ l.length := by
  suffices H : ∀ (l : List UInt8) (a : Nat), l.foldl (fun a c => a * 256 + c.toNat) a < (a + 1) * 256 ^ l.length by
    have := H l 0; simpa [rdn] using this
  intro l
  induction l with
  | nil => intro a; simp
  | cons c l ih =>
    intro a; have h1 := ih (a * 256 + c.toNat); have h2 : c.toNat < 256 := UInt8.toNat_lt c; simp only [List.foldl_cons, List.length_cons]; refine Nat.lt_of_lt_of_le h1 ?_; rw [Nat.pow_succ, Nat.mul_comm (256 ^ l.length) 256, ← Nat.mul_assoc]; exact Nat.mul_le_mul_right _ (by omega)
def rd8 (l : List UInt8) : Int := IntKind.i64.wrap (rdn l : Int)
theorem or_val (a : Nat) (c : UInt8) (h : a < 72057594037927936) :
    Value.int .u64 (IntKind.u64.wrap (BitVec.ofInt IntKind.u64.bits (IntKind.u64.wrap ((a : Int) * 2 ^ (min ((8 : Int)).toNat IntKind.u64.bits))) ||| BitVec.ofInt IntKind.u64.bits (IntKind.u64.wrap (c.toNat : Int))).toNat) = .int .u64 ((a * 256 + c.toNat : Nat) : Int) := by
  have hc : c.toNat < 256 := UInt8.toNat_lt c
  have e1 : IntKind.u64.wrap ((a : Int) * 2 ^ (min ((8 : Int)).toNat IntKind.u64.bits)) = ((256 * a : Nat) : Int) := by
    rw [wrap_u64]; show (a : Int) * 256 % 18446744073709551616 = _; omega
  have e2 : IntKind.u64.wrap (c.toNat : Int) = (c.toNat : Int) := by rw [wrap_u64]; omega
  rw [e1, e2]; refine congrArg (Value.int .u64) ?_; show IntKind.u64.wrap (((BitVec.ofInt 64 ((256 * a : Nat) : Int) ||| BitVec.ofInt 64 ((c.toNat : Nat) : Int)).toNat : Nat) : Int) = _; rw [BitVec.ofInt_natCast, BitVec.ofInt_natCast, BitVec.toNat_or, BitVec.toNat_ofNat, BitVec.toNat_ofNat, Nat.mod_eq_of_lt (by omega), Nat.mod_eq_of_lt (by omega)]; have h3 := Nat.two_pow_add_eq_or_of_lt (i := 8) (b := c.toNat) hc a; rw [show (2 : Nat) ^ 8 = 256 from rfl] at h3; rw [← h3, wrap_u64]; omega
theorem getD_memN {l : List Nat} {k : Nat} (h : k < l.length) : l.getD k 0 ∈ l := by simp [h]
theorem _root_.Go.Proofs.YtaanjifekgfemaaGreat.K.Rds.any {L G : List Res} {v : Value} {n : Nat} {xs : List Value} (h : Rds [] G v n xs) : Rds L G v n xs := h.mono (by simp) (fun r h => h)
def ptrs (b : Nat) (offs : List Nat) : List Value := offs.map fun o => .pointer (some ⟨b, o, none⟩)
def fk (cs : List Value) (offs : List Nat) (s : List UInt8) : Nat → List Value
  | 0 => cs
  | k + 1 => (fk cs offs s k).set (offs.getD k 0) (.int .i64 (rd8 ((s.drop (8 * k)).take 8)))
theorem fk_length (cs : List Value) (offs : List Nat) (s : List UInt8) (k : Nat) : (fk cs offs s k).length = cs.length := by
  induction k with
  | zero => rfl
  | succ k ih => simp [fk, ih]
theorem ptrs_get {b : Nat} {offs : List Nat} {k : Nat} (h : k < offs.length) : (ptrs b offs)[(k : Int).toNat * 1]? = some (.pointer (some ⟨b, offs.getD k 0, none⟩)) := by
  simp [ptrs, h]
theorem bvs_get {l : List UInt8} {k : Nat} (h : k < l.length) : (bvs l)[(k : Int).toNat * 1]? = some (.int .u8 ((l.getD k 0).toNat : Int)) := by
  simp [bvs, h, bv]
theorem take_snoc8 {l : List UInt8} {k : Nat} (h : k < l.length) : l.take (k + 1) = l.take k ++ [l.getD k 0] := by
  rw [List.take_succ_eq_append_getElem h]; simp [h]
theorem fa177_0 : FA 177 0 0 := fun _ _ => by simp [Instr.fieldAt, Instr.sureAddr, go_sem]
set_option maxHeartbeats 2000000 in
theorem rnums_any (br bt : Nat) (offs : List Nat) (cs : List Value) (te : TypeId) (s : List UInt8) (A AL : Option Addr) (cp cl : Nat) (w0 w : World) (F0 : List Nat) (L G : List Res)
    (hst : St w0 F0 w (cellsR br [.slice A s.length cp] 177 :: cellsR bt cs te :: L) G) (hs : Rds [] G (.slice A s.length cp) s.length (bvs s)) (hl : Rds L G (.slice AL offs.length cl) offs.length (ptrs bt offs))
    (h8 : 8 * offs.length ≤ s.length) (hmax : s.length ≤ 1000000) (hof : ∀ o ∈ offs, o < cs.length) :
    Calls Tryz.prog 84 #[.pointer (some ⟨br, 0, none⟩), .slice AL offs.length cl] w fun e w' => e = .returned (.tuple #[]) ∧ ∃ A' cp', Rds [] G (.slice A' (s.drop (8 * offs.length)).length cp') (s.drop (8 * offs.length)).length (bvs (s.drop (8 * offs.length))) ∧
      St w0 F0 w' (cellsR br [.slice A' (s.drop (8 * offs.length)).length cp'] 177 :: cellsR bt (fk cs offs s offs.length) te :: L) G := by
  refine W.func func84 rfl ntmps84 rfl<|W.sr rfl<|hst.y rfl (Y.moveS rfl)<|hst.y rfl (Y.lenS underlying201 rfl)<|hst.y rfl (Y.moveI rfl)<|Ops.done rfl<|W.block rfl<|?_; refine W.loop (γ := Nat) [(0, .pointer _), (9, .slice _ _ _), (10, .int _ _)] (fun k => [(11, .int .i64 (k : Int))]) (fun k w => k ≤ offs.length ∧ ∃ A' cp', Rds [] G (.slice A' (s.drop (8 * k)).length cp') (s.drop (8 * k)).length (bvs (s.drop (8 * k))) ∧ St w0 F0 w (cellsR br [.slice A' (s.drop (8 * k)).length cp'] 177 :: cellsR bt (fk cs offs s k) te :: L) G) (fun k => offs.length - k) (0) rfl ⟨rfl, rfl, rfl, trivial⟩ ?_ ?_ ?_
  · exact ⟨rfl, trivial⟩
  · exact ⟨by omega, A, cp, by simpa using hs, by simpa [fk] using hst⟩
  · clear hst; rintro k j w1 ⟨hk, A', cp', hs', hst⟩; refine W.sr rfl<|hst.yb rfl (Y.lss rfl rfl) (fun b12 hb12 => Ops.done rfl<|W.seq rfl<|?_); cases b12
    · replace hb12 := dF hb12; refine W.condF rfl rfl<|W.exit rfl<|⟨_, Rslt.none results84, ?_⟩; have hkk : k = offs.length := by omega
      subst hkk; exact ⟨rfl, A', cp', hs', hst⟩
    · replace hb12 := dT hb12; refine W.condT rfl rfl<|W.skip rfl<|W.seq rfl<|W.block rfl<|W.seq rfl<|?_; have hk1 : k < offs.length := by omega
      have hlen : (s.drop (8 * k)).length = s.length - 8 * k := List.length_drop ..; refine W.region rfl<|hst.y rfl (Y.indexAddr underlying201 sizeOf179 rfl rfl ((((hl.cons _).cons _).sl hst).ne (by simp [ptrs]; omega)) (by omega))<|?_; refine hst.y rfl (Y.loadSl isAgg179 rfl ((hl.cons _).cons _) (ptrs_get hk1))<|hst.y rfl (Y.assignP rfl)<|Ops.ds rfl rfl<|hst.y rfl (Y.assignI rfl)<|Ops.done rfl<|W.seq rfl<|W.seq rfl<|?_
      have hcap : 8 ≤ cp' := by
        obtain ⟨_, _, he, hc, _⟩ := (hs'.any).sl hst; injection he with _ _ he; omega
      have hs8 : Rds [] G (.slice A' 8 cp') 8 (bvs ((s.drop (8 * k)).take 8)) := by
        have := hs'.takeN (size := 1) (k := 8) (by rw [bvs_length, Nat.mul_one]) (by omega); simpa [bvs, List.map_take] using this
      have hl8 : ((s.drop (8 * k)).take 8).length = 8 := by rw [List.length_take]; omega
      refine W.region rfl<|hst.y rfl (Y.moveP rfl)<|hst.y rfl (Y.nilCheck rfl)<|?_
      first
      | refine hst.y rfl (Y.fieldAddr fa177_0 rfl) ?_
      | refine hst.y rfl (Y.fieldAddrP fa177_0 rfl) ?_
      refine hst.y rfl (Y.load 0 isAgg172 rfl rfl rfl)<|hst.y rfl (Y.sliceHi underlying172 sizeOf5 rfl rfl (m := 8) rfl hcap)<|hst.y rfl (Y.lenS underlying172 rfl)<|hst.y rfl (Y.moveI rfl)<|Ops.done rfl<|W.block rfl<|?_; refine W.loop (γ := Nat) [(0, .pointer _), (5, .pointer _), (9, .slice _ _ _), (10, .int _ _), (11, .int _ _), (19, .slice _ _ _), (20, .int _ _)] (fun j => [(6, .int .u64 (rdn (((s.drop (8 * k)).take 8).take j) : Int)), (21, .int .i64 (j : Int))]) (fun j w => j ≤ 8 ∧ St w0 F0 w (cellsR br [.slice A' (s.drop (8 * k)).length cp'] 177 :: cellsR bt (fk cs offs s k) te :: L) G) (fun j => 8 - j) (0) rfl ⟨rfl, rfl, rfl, rfl, rfl, rfl, rfl, trivial⟩ ?_ ?_ ?_
      · exact ⟨rfl, rfl, trivial⟩
      · exact ⟨by omega, hst⟩
      · clear hst; rintro j i w3 ⟨hj8, hst⟩; refine W.sr rfl<|hst.yb rfl (Y.lss rfl rfl) (fun b22 hb22 => Ops.done rfl<|W.seq rfl<|?_); cases b22
        · replace hb22 := dF hb22; refine W.condF rfl rfl<|W.exit rfl<|?_; have hj : j = 8 := by omega
          subst hj; refine hst.dv [10,11,12,13] (.op 0 0 (.op 1 2 (T0 [2,3,4,5,6,7] (.op 8 2 (.op 9 0 (T1 [10,11,12,13] .nil)))))) rfl (by kernel_rfl) rfl (by kernel_rfl) fun wd hst => ?_; refine hst.z rfl (Y.moveP rfl)<|Drw.ya rfl rfl rfl hst.ctx (Y.moveP rfl)<|hst.z rfl (Y.moveI rfl)<|hst.z rfl (Y.conv underlying3 underlying192 rfl)<|hst.z rfl (Y.moveP rfl)<|hst.z rfl (Y.nilCheck rfl)<|?_
          first
          | refine hst.z rfl (Y.fieldAddr fa177_0 rfl) ?_
          | refine hst.z rfl (Y.fieldAddrP fa177_0 rfl) ?_
          refine hst.z rfl (Y.load 0 isAgg172 rfl rfl rfl)<|Drw.ya rfl rfl rfl hst.ctx (Y.sliceLo underlying172 sizeOf5 rfl rfl (m := 8) rfl (by omega))<|hst.z rfl (Y.nilCheck rfl)<|Drw.z rfl rfl rfl rfl (X.store hst 1 sizeOf3 rfl rfl (v := .int .i64 (rd8 (((s.drop (8 * k)).take 8).take 8))) rfl rfl (by rw [fk_length]; exact hof _ (getD_memN hk1)) rfl rfl<|?_); clear hst; intro w910 hst; refine Drw.zy rfl rfl rfl rfl hst.ctx (Y.nilCheck rfl) ?_
          first
          | refine Drw.zy rfl rfl rfl rfl hst.ctx (Y.fieldAddr fa177_0 rfl) ?_
          | refine Drw.zy rfl rfl rfl rfl hst.ctx (Y.fieldAddrP fa177_0 rfl) ?_
          refine Drw.z rfl rfl rfl rfl (X.storeV hst 0 (.slice _ _ _) sizeOf172 rfl rfl rfl rfl (lZ rfl) rfl rfl ?_); clear hst; intro w913 hst; refine Drw.done<|W.region rfl<|hst.y rfl (Y.addI rfl rfl (by omega))<|hst.y rfl (Y.moveI rfl)<|Ops.done rfl<|?_; have hd := hs'.dropN (size := 1) (k := 8) (by rw [bvs_length, Nat.mul_one]) (by omega); have hdl : (s.drop (8 * (k + 1))).length = (s.drop (8 * k)).length - 8 := by rw [List.length_drop, List.length_drop]; omega
          refine ⟨k + 1, ⟨rfl, trivial⟩, ⟨rfl, rfl, rfl, trivial⟩, ⟨by omega, resl A' cp' 8 1, cp' - 8, ?_, ?_⟩, by omega⟩
          · rw [hdl]; have e : bvs (s.drop (8 * (k + 1))) = (bvs (s.drop (8 * k))).drop (8 * 1) := by simp [bvs, List.map_drop, Nat.mul_add]
            rw [e]; exact hd
          · rw [hdl]; rw [List.take_of_length_le (l := (s.drop (8 * k)).take 8) (by omega)] at hst; exact hst
        · replace hb22 := dT hb22; refine W.condT rfl rfl<|W.skip rfl<|W.seq rfl<|W.block rfl<|W.seq rfl<|?_; have hj1 : j < ((s.drop (8 * k)).take 8).length := by omega
          have hlt := rdn_lt (((s.drop (8 * k)).take 8).take j); refine W.region rfl<|hst.y rfl (Y.indexAddr underlying172 sizeOf5 rfl rfl (((hs8.any).sl hst).ne (by rw [bvs_length]; omega)) (by omega))<|?_; refine hst.y rfl (Y.loadSl isAgg5 rfl (hs8.any) (bvs_get hj1))<|hst.y rfl (Y.assignI rfl)<|Ops.done rfl<|W.region rfl<|hst.y rfl (Y.moveI rfl)<|hst.y rfl (Y.shl rfl rfl (by omega))<|hst.y rfl (Y.moveI rfl)<|hst.y rfl (Y.conv underlying192 underlying5 rfl)<|hst.y rfl (Y.or rfl rfl)<|hst.y rfl (Y.assignI rfl)<|Ops.done rfl<|W.region rfl<|hst.y rfl (Y.addI rfl rfl (by omega))<|hst.y rfl (Y.moveI rfl)<|Ops.done rfl<|?_; have hpw : (256 : Nat) ^ (((s.drop (8 * k)).take 8).take j).length ≤ 256 ^ 7 := Nat.pow_le_pow_right (by decide) (by rw [List.length_take]; omega); have hor := or_val (rdn (((s.drop (8 * k)).take 8).take j)) (((s.drop (8 * k)).take 8).getD j 0) (Nat.lt_of_lt_of_le hlt (Nat.le_trans hpw (by decide))); rw [← rdn_snoc, ← take_snoc8 hj1] at hor; exact ⟨j + 1, ⟨hor, rfl, trivial⟩, ⟨rfl, rfl, rfl, rfl, rfl, rfl, rfl, trivial⟩, ⟨by omega, hst⟩, by omega⟩
end Go.Proofs.YtaanjifekgfemaaGreat.W
end
section
namespace Go.Proofs.YtaanjifekgfemaaGreat.K
open Tryz
open Go.RowKit
section
variable {P : Program} {n : Fr} {c : Code} {Q : Post} {ρ : Env} {w0 w : World} {F0 : List Nat} {L G : List Res} {S : World → Prop} {ty t t' : TypeId} {x y : Operand}
theorem str_sz (l : List UInt8) : (str l).size = l.length := by simp [str, ByteArray.size]
theorem bytesRow_str (l : List UInt8) (m : Nat) : bytesRow (str l) (l.length + m) = (bvs l ++ List.replicate m (Value.int .u8 0)).toArray := by
  unfold bytesRow; rw [str_sz]; apply Array.ext'
  simp [str, bvs]; exact fun a _ => rfl
theorem X.bytes (hst : St w0 F0 w L G) {src e : TypeId} (hs : P.underlying src = some .string) (hd : P.underlying t = some (.slice e)) (he : P.underlying e = some (.int .u8)) {l : List UInt8} (hx : ev ρ x = .string (str l)) {K : Value → World → Prop}
    (k : ∀ b m w', St w0 F0 w' (cellsR b (bvs l ++ List.replicate m (.int .u8 0)) e :: L) G → K (.slice (some ⟨b, 0, none⟩) l.length (l.length + m)) w') : X P ρ w (.convert src t x) ty K := by
  intro a ops Q o ho _ ha hw; have hge := grownCap_ge w l.length 0 e; obtain ⟨m, hm⟩ := Nat.exists_eq_add_of_le hge; have hr := run_bytes_of_string w src t e (str l) hs hd he; rw [str_sz, hm, bytesRow_str] at hr; refine wpl hw (v := .slice (some ⟨w.heap.size, 0, none⟩) l.length (l.length + m)) (w' := w.drew.alloc (.cells (bvs l ++ List.replicate m (Value.int .u8 0)).toArray e ((bvs l ++ List.replicate m (Value.int .u8 0)).toArray.size, (bvs l ++ List.replicate m (Value.int .u8 0)).toArray.size + 1))) ?_ ⟨_, rfl, k w.heap.size m _ ?_⟩
  · simp only [execOp, ho, ha, hx]; rw [Sem.run_bind, hr]; rfl
  · refine hst.drew.alloc _ _ rfl ?_; exact ⟨_, heap_alloc_new w.drew _, .inr (by simp)⟩
theorem Rds.front (j : Nat) {b : Nat} {cs xs : List Value} {e : TypeId} (h : L[j]? = some (cellsR b cs e)) {k cp : Nat} (hk : k ≤ cp) (hx : ∀ i, i < xs.length → cs[i]? = xs[i]?) : Rds L G (.slice (some ⟨b, 0, none⟩) k cp) k xs :=
  ⟨cellsR b cs e, .inl (List.mem_of_getElem? h), fun w hw => ⟨_, _, rfl, hk, fun _ => ⟨_, rfl, fun i hi => by
    rw [add_lit', cellsR_cell hw, Nat.zero_add]; exact hx i hi⟩⟩⟩
theorem bytes_front (l : List UInt8) (m : Nat) : ∀ i, i < (bvs l).length → (bvs l ++ List.replicate m (Value.int .u8 0))[i]? = (bvs l)[i]? := fun i hi => List.getElem?_append_left hi
end
end Go.Proofs.YtaanjifekgfemaaGreat.K
end
section
namespace Go.Proofs.YtaanjifekgfemaaGreat.W
open Tryz
open Go.RowKit Go.Proofs.YtaanjifekgfemaaGreat.K Go.Proofs.YtaanjifekgfemaaGreat.CM
structure M where
  kind : Int
  from_ : Int
  slo : Int
  shi : Int
  held : Int
  hops : Int
  good : Bool
  ref : Bool
  elo : Int
  ehi : Int
  pulse : Int
  time : Int
  num : Int
  tab : List (Int × Int)
def M0 : M := ⟨0, 0, 0, 0, 0, 0, false, false, 0, 0, 0, 0, 0, []⟩
def M.Ok (m : M) : Prop := Okm m.kind m.from_ m.slo m.shi m.held m.hops m.elo m.ehi m.pulse m.time m.num m.tab
instance (m : M) : Decidable m.Ok := by unfold M.Ok; infer_instance
def gb (p : List UInt8) (i : Nat) : UInt8 := p.getD i 0
def numAt (p : List UInt8) (i : Nat) : Int := rd8 ((p.drop (4 + 8 * i)).take 8)
def rdTab (p : List UInt8) (n : Nat) : List (Int × Int) := (List.range n).map fun i => (numAt p (9 + 2 * i), numAt p (10 + 2 * i))
def rdM (p : List UInt8) : M := ⟨(gb p 0).toNat, (gb p 1).toNat, numAt p 0, numAt p 1, numAt p 2, numAt p 3, decide ((gb p 2).toNat % 2 = 1), decide ((gb p 2).toNat / 2 % 2 = 1), numAt p 4, numAt p 5, numAt p 6, numAt p 7, numAt p 8, rdTab p (gb p 3).toNat⟩
def FormOk (p : List UInt8) : Prop := 76 ≤ p.length ∧ p.length = 76 + 16 * (gb p 3).toNat ∧ (gb p 2).toNat ≤ 3
instance (p : List UInt8) : Decidable (FormOk p) := by unfold FormOk; infer_instance
def opn (l : List UInt8) : Option (List UInt8) := if l.length < 4 then none else if l.drop (l.length - 4) = le4 (crc (l.take (l.length - 4))) then some (l.take (l.length - 4)) else none
def decR (l : List UInt8) : M × Int := if 4096 < l.length then (M0, 3) else match opn l with
  | none => (M0, 5)
  | some p => if FormOk p then (if (rdM p).Ok then (rdM p, 0) else (M0, 4)) else (M0, 4)
theorem cf28 : CF 81 := fun _ _ => by simp [go_sem]
def decD (p2 p3 : Nat) : Deferred := { target := .fn (.func 81) #[.pointer (some ⟨p2, 0, none⟩), .pointer (some ⟨p3, 0, none⟩)], args := #[] }
theorem dec_res {p2 p3 : Nat} {ms : List Value} {v0 : Value} (hms : ms.length = 14) {w0 w : World} {F0 : List Nat} {L G : List Res} (hst : St w0 F0 w (cellsR p2 ms 103 :: cellsR p3 [v0] 44 :: L) G) {tmps : Array Value}
    (h2 : tmps.getD 2 undef = .pointer (some ⟨p2, 0, none⟩)) (h3 : tmps.getD 3 undef = .pointer (some ⟨p3, 0, none⟩)) : (results Tryz.f59 tmps).run Tryz.prog w = .ok (.tuple #[.agg ms.toArray, v0]) w := by
  have e2 := run_load_agg (w := w) (ad := ⟨p2, 0, none⟩) (vs := ms) isAgg103 sizeOf103 hms (fun j v h => by rw [add_lit', hst.cell (.inl (List.Mem.head _)) (0 + j), Nat.zero_add]; exact h); have e3 := run_load_cell (w := w) (ad := ⟨p3, 0, none⟩) (v := v0) isAgg44 (by rw [hst.cell (.inl (List.Mem.tail _ (List.Mem.head _))) 0]; rfl); rw [Array.getD_eq_getD_getElem?] at h2 h3; simp [results, results59, h2, h3, asAddr, e2, e3]
theorem dec_panic {R : Ending → World → Prop} {p2 p3 : Nat} {ms : List Value} {v0 : Value} (er : Int) (hms : ms.length = 14) {w0 w : World} {F0 : List Nat} {L G : List Res} (hst : St w0 F0 w (cellsR p2 ms 103 :: cellsR p3 [v0] 44 :: L) G) {ρ : Env}
    (h2 : ρ 2 = .pointer (some ⟨p2, 0, none⟩)) (h3 : ρ 3 = .pointer (some ⟨p3, 0, none⟩)) (hR : ∀ w', St w0 F0 w' L G → R (.returned (.tuple #[.agg zms.toArray, .int .i64 er])) w') :
    ∀ tmps : Array Value, (∀ t, t < 4 → tmps.getD t undef = ρ t) → Leaves Tryz.prog Tryz.f59 tmps R [decD p2 p3] (.panicking [{ v := faultV er, recovered := false }]) w := by
  intro tmps ht; refine leaves_cons (f := 81) (args := #[.pointer (some ⟨p2, 0, none⟩), .pointer (some ⟨p3, 0, none⟩)]) (by simp) (by simp [invoke, cf28]) ?_; refine (rec_fault p2 p3 ms hms v0 er w0 w F0 L G hst).mono ?_; rintro e u' w' ⟨rfl, rfl, hst⟩; exact ⟨_, dec_res rfl hst ((ht 2 (by decide)).trans h2) ((ht 3 (by decide)).trans h3), hR w' hst.drop.drop⟩
theorem dec_ret {R : Ending → World → Prop} {p2 p3 : Nat} {ms : List Value} {v0 : Value} (hms : ms.length = 14) {w0 w : World} {F0 : List Nat} {L G : List Res} (hst : St w0 F0 w (cellsR p2 ms 103 :: cellsR p3 [v0] 44 :: L) G) {ρ : Env}
    (h2 : ρ 2 = .pointer (some ⟨p2, 0, none⟩)) (h3 : ρ 3 = .pointer (some ⟨p3, 0, none⟩)) (hR : ∀ w', St w0 F0 w' L G → R (.returned (.tuple #[.agg ms.toArray, v0])) w') :
    ∀ (n : Fr) a, Is n a ρ → Leaves Tryz.prog Tryz.f59 a.tmps R [decD p2 p3] .returning w := by
  intro n a ha; refine leaves_cons (f := 81) (args := #[.pointer (some ⟨p2, 0, none⟩), .pointer (some ⟨p3, 0, none⟩)]) (by simp) (by simp [invoke, cf28]) ?_; refine (rec_nil _ _ w0 w F0 _ G hst).mono ?_; rintro e u' w' ⟨rfl, rfl, hst⟩; exact ⟨_, dec_res hms hst ((ha.get 2).trans h2) ((ha.get 3).trans h3), hR w' hst.drop.drop⟩
end Go.Proofs.YtaanjifekgfemaaGreat.W
end
section
namespace Go.Proofs.YtaanjifekgfemaaGreat.Cl
open Tryz
open Go.Proofs.YtaanjifekgfemaaGreat.W
def bound (x lo hi : Int) : Int := if x < lo ∨ hi < lo then lo else if hi < x then hi else x
def clip (x : Int) : Int := bound x (-2305843009213693952) 2305843009213693952
def adds (l : List Int) : Int := l.foldl (fun n x => clip (n + clip x)) 0
def sub (a b : Int) : Int := clip (clip a - clip b)
def neg (a : Int) : Int := - clip a
def mag (a : Int) : Int := if a < 0 then neg a else clip a
def mulp (x y : Int) : Int := if x = 0 ∨ y ≤ 2305843009213693952 / x then x * y else 2305843009213693952
def mul (a b : Int) : Int := if (a < 0 ∧ ¬ b < 0) ∨ (¬ a < 0 ∧ b < 0) then - mulp (mag a) (mag b) else mulp (mag a) (mag b)
def maxs (l : List Int) : Int := l.foldl (fun n x => max n (clip x)) (-2305843009213693952)
structure Sp where
  lo : Int
  hi : Int
def Sp.all : Sp := ⟨-2305843009213693952, 2305843009213693952⟩
def Sp.of (lo hi : Int) : Sp := ⟨clip lo, clip hi⟩
def Sp.shift (s : Sp) (lo hi : Int) : Sp := ⟨adds [s.lo, lo], adds [s.hi, hi]⟩
def Sp.mid (s : Sp) : Int := (clip s.lo + clip s.hi) / 2
structure Par where
  N : Int
  F : Int
  D : Int
  Beat : Int
  Rho : Int
  Delay : Int
  Jitter : Int
  Eps : Int
  Mu : Int
  Hold : Int
  Pulse : Int
  Second : Int
structure Par.Ok (p : Par) : Prop where
  N : 1 ≤ p.N ∧ p.N ≤ 16
  F : 0 ≤ p.F ∧ p.F ≤ (p.N - 1) / 3
  D : 0 ≤ p.D ∧ p.D ≤ 16
  Beat : 1 ≤ p.Beat ∧ p.Beat ≤ 1099511627776
  Rho : 0 ≤ p.Rho ∧ p.Rho ≤ p.Beat / 8
  Delay : 0 ≤ p.Delay ∧ p.Delay ≤ p.Beat / 2
  Jitter : 0 ≤ p.Jitter ∧ p.Jitter ≤ p.Delay
  Eps : 0 ≤ p.Eps ∧ p.Eps ≤ 1099511627776
  Mu : p.Rho + 1 ≤ p.Mu ∧ p.Mu ≤ p.Beat / 4
  Hold : p.D + 2 ≤ p.Hold ∧ p.Hold ≤ 1048576
  Pulse : 1 ≤ p.Pulse ∧ p.Pulse ≤ 1099511627776
  Second : 1 ≤ p.Second ∧ p.Second ≤ 1099511627776
def hop (p : Par) : Int := adds [p.Jitter, mul 2 p.Rho]
def gateW (p : Par) : Int := mul 2 (adds [mul 2 p.Eps, hop p])
def width (p : Par) (held hops : Int) : Int := adds [gateW p, mul (mul 2 p.Rho) held, mul (adds [hops, 1]) (hop p)]
def settle (p : Par) : Int := adds [mul 2 p.D, 6, (mul 3 (width p p.Hold p.D) + (sub p.Mu p.Rho) - 1) / (sub p.Mu p.Rho)]
def hold (p : Par) (s : Sp) (ticks : Int) : Sp := s.shift (sub ticks p.Rho) (adds [ticks, p.Rho])
def way (p : Par) (s : Sp) (age : Int) : Sp := s.shift (adds [sub p.Delay p.Jitter, age, neg p.Rho]) (adds [p.Delay, age, p.Rho])
def seenOk (p : Par) (reading : Int) : Prop := ¬ (1152921504606846976 < reading ∨ reading < -1152921504606846976 ∨ p.Eps < 0)
instance (p : Par) (reading : Int) : Decidable (seenOk p reading) := by unfold seenOk; infer_instance
def seen (p : Par) (reading : Int) : Sp := if seenOk p reading then ⟨sub reading p.Eps, adds [reading, p.Eps]⟩ else ⟨0, 0⟩
def moreHeld (held : Int) : Int := bound (adds [held, 1]) 0 1073741824
def pulseNo (p : Par) (t : Int) : Int := clip t / max (clip p.Pulse) 1
def far (p : Par) (held : Int) : Int := mul 2 (width p (maxs [held, p.Hold]) p.D)
structure Sta where
  t : Int
  n : Int
def Sta.Less (a b : Sta) : Prop := a.t < b.t ∨ a.t = b.t ∧ a.n < b.n
instance (a b : Sta) : Decidable (a.Less b) := by unfold Sta.Less; infer_instance
def Sta.Right (s : Sta) : Prop := -2305843009213693952 ≤ s.t ∧ s.t ≤ 2305843009213693952 ∧ 0 ≤ s.n ∧ s.n ≤ 1073741824
instance (s : Sta) : Decidable s.Right := by unfold Sta.Right; infer_instance
def Sta.next (s : Sta) : Sta := if 1073741824 ≤ s.n then ⟨adds [s.t, 1], 0⟩ else ⟨clip s.t, max s.n 0 + 1⟩
def Sta.tick (c : Sta) (now : Int) : Sta := if c.t < clip now then ⟨clip now, 0⟩ else c.next
def Sta.later (a b : Sta) : Sta := if a.Less b then b else a
def Sta.of (x : Int × Int) : Sta := ⟨x.1, x.2⟩
def Sta.last (x : Int × Int) (l : List (Int × Int)) : Sta := l.foldl (fun a y => a.later (Sta.of y)) (Sta.of x)
def Sta.hear (c : Sta) (now : Int) (s : Sta) (most : Int) : Sta := if ¬ s.Right ∨ most < s.t then c.tick now else ((c.later s).later ⟨clip now, -1⟩).next
def Sta.mended (c : Sta) (most : Int) : Prop := ¬ (c.Right ∧ c.t ≤ most)
instance (c : Sta) (most : Int) : Decidable (c.mended most) := by unfold Sta.mended; infer_instance
def Sta.mend (c : Sta) (now most : Int) : Sta := if c.mended most then ⟨clip now, 0⟩ else c
def slew (p : Par) (time : Int) (set : Bool) (ticks to : Int) (jump : Bool) : Int :=
  if jump = true ∨ set = false then clip to else adds [adds [time, ticks], bound (sub to (adds [time, ticks])) (neg p.Mu) p.Mu]
def goodTab (l : List (Int × Int)) : Prop := TabOk l ∧ ∀ x ∈ l, (x.1 - x.2).tmod 86400 = 0
instance (l : List (Int × Int)) : Decidable (goodTab l) := by unfold goodTab; infer_instance
def cmp3 (x y : Int) : Int := if x < y then -1 else if y < x then 1 else 0
def firstNot0 : List Int → Int
  | [] => 0
  | x :: l => if x ≠ 0 then x else firstNot0 l
def usable (p : Par) (m : M) : Prop := m.kind = 2 ∧ m.good = true ∧ 0 ≤ m.hops ∧ m.hops < p.D ∧ ¬ m.shi < m.slo
instance (p : Par) (m : M) : Decidable (usable p m) := by unfold usable; infer_instance
def better (m n : M) : Int := firstNot0 [cmp3 m.hops n.hops, cmp3 m.held n.held, cmp3 m.from_ n.from_]
structure Stt where
  lo : Int
  hi : Int
  time : Int
  set : Bool
  held : Int
  hops : Int
  good : Bool
  tab : List (Int × Int)
  st : Int
  sn : Int
  life : Int
def sane (p : Par) (s : Stt) : Stt where
  lo := if clip s.hi < clip s.lo then -2305843009213693952 else clip s.lo
  hi := if clip s.hi < clip s.lo then 2305843009213693952 else clip s.hi
  time := clip s.time
  set := s.set
  held := bound s.held 0 1073741824
  hops := bound s.hops 0 (adds [p.D, 1])
  good := if clip s.hi < clip s.lo then false else s.good
  tab := if goodTab s.tab then s.tab else []
  st := if Sta.Right ⟨s.st, s.sn⟩ then s.st else clip s.time
  sn := if Sta.Right ⟨s.st, s.sn⟩ then s.sn else 0
  life := bound s.life 0 2305843009213693952
def healthOf (p : Par) (s : Stt) : Int := if s.good = false ∨ s.set = false ∨ p.D < s.hops then 0 else if p.Hold < s.held then 2 else 1
theorem bound_in (x lo hi : Int) (h : lo ≤ hi) : lo ≤ bound x lo hi ∧ bound x lo hi ≤ hi := by unfold bound; split; omega; split <;> omega
theorem clip_in (x : Int) : -2305843009213693952 ≤ clip x ∧ clip x ≤ 2305843009213693952 := bound_in _ _ _ (by decide)
theorem clip_id {x : Int} (h : -2305843009213693952 ≤ x ∧ x ≤ 2305843009213693952) : clip x = x := by unfold clip bound; rw [if_neg (by omega), if_neg (by omega)]
theorem clip_eq (x : Int) : clip x = if x < -2305843009213693952 then -2305843009213693952 else if 2305843009213693952 < x then 2305843009213693952 else x := by
  unfold clip bound
  by_cases h : x < -2305843009213693952
  · rw [if_pos (.inl h), if_pos h]
  · rw [if_neg (by omega), if_neg h]
theorem adds_in (l : List Int) : -2305843009213693952 ≤ adds l ∧ adds l ≤ 2305843009213693952 := by
  unfold adds
  have : ∀ (l : List Int) (a : Int), (-2305843009213693952 ≤ a ∧ a ≤ 2305843009213693952) → -2305843009213693952 ≤ l.foldl (fun n x => clip (n + clip x)) a ∧ l.foldl (fun n x => clip (n + clip x)) a ≤ 2305843009213693952 := by
    intro l
    induction l with
    | nil => intro a h; exact h
    | cons x l ih => intro a h; exact ih _ (clip_in _)
  exact this l 0 (by omega)
theorem sub_in (a b : Int) : -2305843009213693952 ≤ sub a b ∧ sub a b ≤ 2305843009213693952 := clip_in _
theorem mag_in (a : Int) : 0 ≤ mag a ∧ mag a ≤ 2305843009213693952 := by
  unfold mag neg; have := clip_in a; rw [clip_eq] at *; split <;> (try split) <;> (try split) <;> omega
theorem mulp_in {x y : Int} (hx : 0 ≤ x ∧ x ≤ 2305843009213693952) (hy : 0 ≤ y ∧ y ≤ 2305843009213693952) : 0 ≤ mulp x y ∧ mulp x y ≤ 2305843009213693952 := by
  unfold mulp; split
  · rename_i h; rcases h with h | h
    · subst h; simp
    · rcases Int.lt_or_eq_of_le hx.1 with h0 | h0
      · have h1 : y * x ≤ 2305843009213693952 := (Int.le_ediv_iff_mul_le h0).1 h; rw [Int.mul_comm] at h1; exact ⟨Int.mul_nonneg hx.1 hy.1, h1⟩
      · subst h0; simp
  · omega
theorem mul_in (a b : Int) : -2305843009213693952 ≤ mul a b ∧ mul a b ≤ 2305843009213693952 := by
  have h := mulp_in (mag_in a) (mag_in b); unfold mul; split <;> omega
theorem clip_nonneg {x : Int} (h : 0 ≤ x) : 0 ≤ clip x := by rw [clip_eq]; split; omega; split <;> omega
theorem adds_nonneg (l : List Int) (h : ∀ x ∈ l, 0 ≤ x) : 0 ≤ adds l := by
  unfold adds
  have : ∀ (l : List Int) (a : Int), 0 ≤ a → (∀ x ∈ l, 0 ≤ x) → 0 ≤ l.foldl (fun n x => clip (n + clip x)) a := by
    intro l
    induction l with
    | nil => intro a h _; exact h
    | cons x l ih =>
      intro a h h2; have h3 := clip_nonneg (h2 x (by simp)); exact ih _ (clip_nonneg (by omega)) (fun y hy => h2 y (by simp [hy]))
  exact this l 0 (by omega) h
theorem mul_nonneg {a b : Int} (ha : 0 ≤ a) (hb : 0 ≤ b) : 0 ≤ mul a b := by
  unfold mul; rw [if_neg (by omega)]; exact (mulp_in (mag_in a) (mag_in b)).1
theorem sub_id {a b : Int} (ha : -1000000000000000000 ≤ a ∧ a ≤ 1000000000000000000) (hb : -1000000000000000000 ≤ b ∧ b ≤ 1000000000000000000) : sub a b = a - b := by
  unfold sub; rw [clip_id (x := a) (by omega), clip_id (x := b) (by omega), clip_id (by omega)]
theorem hop_nonneg {p : Par} (h : p.Ok) : 0 ≤ hop p := adds_nonneg _ (by
  intro x hx; simp only [List.mem_cons, List.not_mem_nil, or_false] at hx; rcases hx with rfl | rfl
  · exact h.Jitter.1
  · exact mul_nonneg (by decide) h.Rho.1)
theorem gateW_nonneg {p : Par} (h : p.Ok) : 0 ≤ gateW p := mul_nonneg (by decide) (adds_nonneg _ (by
  intro x hx; simp only [List.mem_cons, List.not_mem_nil, or_false] at hx; rcases hx with rfl | rfl
  · exact mul_nonneg (by decide) h.Eps.1
  · exact hop_nonneg h))
theorem width_nonneg {p : Par} (h : p.Ok) {held hops : Int} (h1 : 0 ≤ held) (h2 : 0 ≤ hops) : 0 ≤ width p held hops := adds_nonneg _ (by
  intro x hx; simp only [List.mem_cons, List.not_mem_nil, or_false] at hx; rcases hx with rfl | rfl | rfl
  · exact gateW_nonneg h
  · exact mul_nonneg (mul_nonneg (by decide) h.Rho.1) h1
  · exact mul_nonneg (adds_nonneg _ (by intro y hy; simp only [List.mem_cons, List.not_mem_nil, or_false] at hy; omega)) (hop_nonneg h))
end Go.Proofs.YtaanjifekgfemaaGreat.Cl
end
section
namespace Go.Proofs.YtaanjifekgfemaaGreat.K
open Tryz
open Go.RowKit
section
variable {P : Program} {n : Fr} {c : Code} {Q : Post} {ρ : Env} {w0 w : World} {F0 : List Nat} {L G : List Res} {S : World → Prop} {ty t t' : TypeId} {x y : Operand}
theorem Y.indexT (ht : P.underlying t = some .string) {l : List UInt8} {ki : IntKind} {i : Int} {k : Nat} (hx : ev ρ x = .string (K.str l)) (hy : ev ρ y = .int ki i) (hi : i = (k : Int)) (hk : k < l.length) : Y P S ρ (.index t x y) ty (.int .u8 ((l.getD k 0).toNat : Int)) := fun w _ o ho _ => by
  subst hi
  have h1 : (K.str l)[k]? = some (l.getD k 0) := by
    have h2 : k < (K.str l).size := hk; rw [getElem?_pos (K.str l) k h2]
    congr 1
    show (K.str l).data[k] = _; simp [K.str, hk]
  simp [execOp, ho, hx, hy, Instr.index, asIntOf, run_underlying ht, h1]
theorem run_eq2 {f0 f1 : Field} (ht : P.underlying t = some (.struct #[f0, f1])) (hp : P.stoodInHeld t = false) (h0 : f0.name ≠ "_") (h1 : f1.name ≠ "_") (o0 : f0.offset = 0) (o1 : f1.offset = 1)
    (i0 : P.underlying f0.type = some (.int .i64)) (i1 : P.underlying f1.type = some (.int .i64)) (s0 : ∀ w, (sizeOf f0.type).run P w = .ok 1 w) (s1 : ∀ w, (sizeOf f1.type).run P w = .ok 1 w) (a0 : ∀ w, (isAgg f0.type).run P w = .ok false w) (a1 : ∀ w, (isAgg f1.type).run P w = .ok false w) (a b c d : Int) (w : World) :
    (Op.equalIn 10000 t (.agg #[.int .i64 a, .int .i64 b]) (.agg #[.int .i64 c, .int .i64 d])).run P w = .ok (decide (a = c ∧ b = d)) w := by
  have hf : P.fieldsOf t = #[f0, f1] := by simp [Program.fieldsOf, ht]
  rw [run_equalIn_struct w 9999 t _ _ (by rw [hf]; exact ht) hp, hf]; simp only [Op.eqFields, h0, h1, ne_eq, not_false_eq_true, if_true, Sem.run_bind]; rw [o0, o1]
  have p0 : ∀ (u v : Value) w, u.cells = #[u] → (part f0.type #[u, v] 0).run P w = .ok u w := fun u v w hu => by
    simp [part, s0, a0]
  have p1 : ∀ (u v : Value) w, u.cells = #[u] → (part f1.type #[u, v] 1).run P w = .ok v w := fun u v w hu => by
    simp [part, s1, a1]
  rw [p0 _ _ _ rfl]; simp only [Result.andThen_ok]; rw [p0 _ _ _ rfl]; simp only [Result.andThen_ok]; rw [run_equalIn_int w 9998 f0.type .i64 .i64 a c i0]; simp only [Result.andThen_ok]
  by_cases hac : a = c
  · subst hac; simp only [beq_self_eq_true, Bool.not_true, Bool.false_eq_true, if_false]; rw [Sem.run_bind, p1 _ _ _ rfl]; simp only [Result.andThen_ok]; rw [Sem.run_bind, p1 _ _ _ rfl]; simp only [Result.andThen_ok]; rw [Sem.run_bind, run_equalIn_int w 9998 f1.type .i64 .i64 b d i1]; simp only [Result.andThen_ok]
    by_cases hbd : b = d
    · subst hbd; simp
    · simp [hbd]
  · simp [hac]
theorem Y.eq2 (hg : P.eqGuardType P.depth t = false) (he : ∀ (a b c d : Int) (w : World), (Op.equalIn 10000 t (.agg #[.int .i64 a, .int .i64 b]) (.agg #[.int .i64 c, .int .i64 d])).run P w = .ok (decide (a = c ∧ b = d)) w)
    {a b c d : Int} (hx : ev ρ x = .agg #[.int .i64 a, .int .i64 b]) (hy : ev ρ y = .agg #[.int .i64 c, .int .i64 d]) : Y P S ρ (.binOp .eql t x y t') ty (.bool (decide (a = c ∧ b = d))) := fun w _ o ho _ => by
  have h1 := run_eqGuard_agg (P := P) w .eql t x y #[.int .i64 a, .int .i64 b] #[.int .i64 c, .int .i64 d] hg; have h2 := run_eql_struct (P := P) w t #[.int .i64 a, .int .i64 b] #[.int .i64 c, .int .i64 d]; rw [he] at h2; simp only [execOp, ho, hx, hy]; rw [Sem.run_bind, Sem.run_bind, h1]; simp only [Result.andThen_ok]; rw [h2]; simp
theorem Y.ne2 (hg : P.eqGuardType P.depth t = false) (he : ∀ (a b c d : Int) (w : World), (Op.equalIn 10000 t (.agg #[.int .i64 a, .int .i64 b]) (.agg #[.int .i64 c, .int .i64 d])).run P w = .ok (decide (a = c ∧ b = d)) w)
    {a b c d : Int} (hx : ev ρ x = .agg #[.int .i64 a, .int .i64 b]) (hy : ev ρ y = .agg #[.int .i64 c, .int .i64 d]) : Y P S ρ (.binOp .neq t x y t') ty (.bool (decide (¬ (a = c ∧ b = d)))) := fun w _ o ho _ => by
  have h1 := run_eqGuard_agg (P := P) w .neq t x y #[.int .i64 a, .int .i64 b] #[.int .i64 c, .int .i64 d] hg; have h2 := run_neq_struct (P := P) w t #[.int .i64 a, .int .i64 b] #[.int .i64 c, .int .i64 d]; rw [he] at h2; have e : (!decide (a = c ∧ b = d)) = decide (¬ (a = c ∧ b = d)) := by by_cases h : a = c ∧ b = d <;> simp [h]
  rw [← e]; simp only [execOp, ho, hx, hy]; rw [Sem.run_bind, Sem.run_bind, h1]; simp only [Result.andThen_ok]; rw [h2]; simp
end
section
variable {P : Program} {n : Fr} {c : Code} {Q : Post} {ρ : Env} {w0 w : World} {F0 : List Nat} {L G : List Res} {S : World → Prop} {ty t t' : TypeId} {x y : Operand}
theorem Y.max2 {k : IntKind} {m m' : Int} {ts : Array TypeId} (hx : ev ρ x = .int k m) (hy : ev ρ y = .int k m') : Y P S ρ (.call { callee := .builtin .max, args := #[x, y], argTypes := ts }) ty (.int k (max m m')) := fun w _ o ho _ => by
  have e : max m m' = if m < m' then m' else m := by omega
  rw [e]; simp [execOp, ho, resolve, invoke, builtin, hx, hy, Builtin.max_, Builtin.max2]
theorem Y.min2 {k : IntKind} {m m' : Int} {ts : Array TypeId} (hx : ev ρ x = .int k m) (hy : ev ρ y = .int k m') : Y P S ρ (.call { callee := .builtin .min, args := #[x, y], argTypes := ts }) ty (.int k (min m m')) := fun w _ o ho _ => by
  have e : min m m' = if m' < m then m' else m := by omega
  rw [e]; simp [execOp, ho, resolve, invoke, builtin, hx, hy, Builtin.min_, Builtin.min2]
theorem St.dr (h : St w0 F0 w L G) (n : Nat) : St w0 F0 w (L.drop n) G := by
  induction n generalizing L with
  | zero => exact h
  | succ n ih =>
    cases L with
    | nil => exact h
    | cons a L => exact ih h.drop
theorem St.sub {L' : List Res} (h : St w0 F0 w L G) (hs : L'.Sublist L) : St w0 F0 w L' G := by
  have hf : (fps L').Sublist (fps L) := by
    clear h
    induction hs with
    | slnil => exact .refl _
    | cons a _ ih => rw [fps_cons]; exact ih.trans (List.sublist_append_right _ _)
    | cons_cons a _ ih => rw [fps_cons, fps_cons]; exact List.Sublist.append (.refl _) ih
  refine ⟨h.os, h.tape, h.output, h.size, h.frame, fun b hb => h.own b (hf.mem hb), hf.nodup h.nod, fun r hr => h.res r (hs.mem hr), fun g hg => ?_⟩; obtain ⟨h1, h2⟩ := h.fact g hg; exact ⟨h1, fun b hb => ⟨(h2 b hb).1, fun hb' => (h2 b hb).2 (hf.mem hb')⟩⟩
theorem St.up_1 {x0 a : Res} (h : St w0 F0 w (x0 :: a :: L) G) : St w0 F0 w (a :: x0 :: L) G := h.perm (List.perm_middle (l₁ := [x0]))
theorem St.dn1 {x0 a : Res} (h : St w0 F0 w (a :: x0 :: L) G) : St w0 F0 w (x0 :: a :: L) G := h.perm (List.perm_middle (l₁ := [x0])).symm
theorem dn1 {f : FuncId} {args : Array Value} {v : Value} {w1 : World} {F1 : List Nat} {G' : List Res} {x0 a : Res} (h : Calls P f args w fun e w' => e = .returned v ∧ St w1 F1 w' (a :: x0 :: L) G') : Calls P f args w fun e w' => e = .returned v ∧ St w1 F1 w' (x0 :: a :: L) G' := h.mono fun _ _ ⟨h1, h2⟩ => ⟨h1, h2.dn1⟩
theorem St.up_2 {x0 x1 a : Res} (h : St w0 F0 w (x0 :: x1 :: a :: L) G) : St w0 F0 w (a :: x0 :: x1 :: L) G := h.perm (List.perm_middle (l₁ := [x0, x1]))
theorem St.dn2 {x0 x1 a : Res} (h : St w0 F0 w (a :: x0 :: x1 :: L) G) : St w0 F0 w (x0 :: x1 :: a :: L) G := h.perm (List.perm_middle (l₁ := [x0, x1])).symm
theorem dn2 {f : FuncId} {args : Array Value} {v : Value} {w1 : World} {F1 : List Nat} {G' : List Res} {x0 x1 a : Res} (h : Calls P f args w fun e w' => e = .returned v ∧ St w1 F1 w' (a :: x0 :: x1 :: L) G') : Calls P f args w fun e w' => e = .returned v ∧ St w1 F1 w' (x0 :: x1 :: a :: L) G' := h.mono fun _ _ ⟨h1, h2⟩ => ⟨h1, h2.dn2⟩
theorem St.up_3 {x0 x1 x2 a : Res} (h : St w0 F0 w (x0 :: x1 :: x2 :: a :: L) G) : St w0 F0 w (a :: x0 :: x1 :: x2 :: L) G := h.perm (List.perm_middle (l₁ := [x0, x1, x2]))
theorem St.dn3 {x0 x1 x2 a : Res} (h : St w0 F0 w (a :: x0 :: x1 :: x2 :: L) G) : St w0 F0 w (x0 :: x1 :: x2 :: a :: L) G := h.perm (List.perm_middle (l₁ := [x0, x1, x2])).symm
theorem dn3 {f : FuncId} {args : Array Value} {v : Value} {w1 : World} {F1 : List Nat} {G' : List Res} {x0 x1 x2 a : Res} (h : Calls P f args w fun e w' => e = .returned v ∧ St w1 F1 w' (a :: x0 :: x1 :: x2 :: L) G') : Calls P f args w fun e w' => e = .returned v ∧ St w1 F1 w' (x0 :: x1 :: x2 :: a :: L) G' := h.mono fun _ _ ⟨h1, h2⟩ => ⟨h1, h2.dn3⟩
theorem St.up_4 {x0 x1 x2 x3 a : Res} (h : St w0 F0 w (x0 :: x1 :: x2 :: x3 :: a :: L) G) : St w0 F0 w (a :: x0 :: x1 :: x2 :: x3 :: L) G := h.perm (List.perm_middle (l₁ := [x0, x1, x2, x3]))
theorem St.dn4 {x0 x1 x2 x3 a : Res} (h : St w0 F0 w (a :: x0 :: x1 :: x2 :: x3 :: L) G) : St w0 F0 w (x0 :: x1 :: x2 :: x3 :: a :: L) G := h.perm (List.perm_middle (l₁ := [x0, x1, x2, x3])).symm
theorem St.up_5 {x0 x1 x2 x3 x4 a : Res} (h : St w0 F0 w (x0 :: x1 :: x2 :: x3 :: x4 :: a :: L) G) : St w0 F0 w (a :: x0 :: x1 :: x2 :: x3 :: x4 :: L) G := h.perm (List.perm_middle (l₁ := [x0, x1, x2, x3, x4]))
theorem St.dn5 {x0 x1 x2 x3 x4 a : Res} (h : St w0 F0 w (a :: x0 :: x1 :: x2 :: x3 :: x4 :: L) G) : St w0 F0 w (x0 :: x1 :: x2 :: x3 :: x4 :: a :: L) G := h.perm (List.perm_middle (l₁ := [x0, x1, x2, x3, x4])).symm
theorem St.up_8 {x0 x1 x2 x3 x4 x5 x6 x7 a : Res} (h : St w0 F0 w (x0 :: x1 :: x2 :: x3 :: x4 :: x5 :: x6 :: x7 :: a :: L) G) : St w0 F0 w (a :: x0 :: x1 :: x2 :: x3 :: x4 :: x5 :: x6 :: x7 :: L) G := h.perm (List.perm_middle (l₁ := [x0, x1, x2, x3, x4, x5, x6, x7]))
theorem St.dn8 {x0 x1 x2 x3 x4 x5 x6 x7 a : Res} (h : St w0 F0 w (a :: x0 :: x1 :: x2 :: x3 :: x4 :: x5 :: x6 :: x7 :: L) G) : St w0 F0 w (x0 :: x1 :: x2 :: x3 :: x4 :: x5 :: x6 :: x7 :: a :: L) G := h.perm (List.perm_middle (l₁ := [x0, x1, x2, x3, x4, x5, x6, x7])).symm
theorem St.cx (h : St w0 F0 w L G) (n : Nat) : Ctx w0 F0 (L.drop n) G w := ⟨L.take n, [], by rw [List.take_append_drop]; exact h⟩
theorem St.cxg (h : St w0 F0 w L G) (n m : Nat) : Ctx w0 F0 (L.drop n) (G.drop m) w := ⟨L.take n, G.take m, by rw [List.take_append_drop, List.take_append_drop]; exact h⟩
theorem X.ret {f : FuncId} {xs : Array Operand} {tys : Array TypeId} {w1 : World} {F1 : List Nat} {L' G' : List Res} {v : Value} {args : Array Value} (hfc : ∀ args w, (callFunc f args).run P w = .ok (.enter f args) w) (h : Calls P f args w fun e w' => e = .returned v ∧ St w1 F1 w' L' G')
    (hv : (xs.toList.map (ev ρ)).toArray = args) {K : Value → World → Prop} (k : ∀ w', St w1 F1 w' L' G' → K v w') : X P ρ w (.call { callee := .value (.func f), args := xs, argTypes := tys }) ty K :=
  X.call hfc rfl (use_call h hv fun _ w' ⟨h1, h2⟩ => ⟨v, h1, k w' h2⟩)
theorem X.retB {f : FuncId} {xs : Array Operand} {tys : Array TypeId} {w1 : World} {F1 : List Nat} {L' G' : List Res} {p : Prop} [Decidable p] {args : Array Value} (hfc : ∀ args w, (callFunc f args).run P w = .ok (.enter f args) w) (h : Calls P f args w fun e w' => ∃ b, e = .returned (.bool b) ∧ b = decide p ∧ St w1 F1 w' L' G')
    (hv : (xs.toList.map (ev ρ)).toArray = args) {K : Value → World → Prop} (k : ∀ b w', b = decide p → St w1 F1 w' L' G' → K (.bool b) w') : X P ρ w (.call { callee := .value (.func f), args := xs, argTypes := tys }) ty K :=
  X.call hfc rfl (use_call h hv fun _ w' ⟨b, h1, h2, h3⟩ => ⟨_, h1, k b w' h2 h3⟩)
theorem X.litsS (hst : St w0 F0 w L G) {e : TypeId} {len m : Nat} {parts : Array (Nat × Operand)} (ht : P.underlying t = some (.slice e)) (hs : ∀ w, (sizeOf e).run P w = .ok m w) {z : Value} (hz : ∀ w, (zeroValue e).run P w = .ok z w)
    (hl : Nat.ble (len * m) 16777216 = true) {vals : List (Nat × Value)} (hp : (parts.toList.map fun x => (x.1, ev ρ x.2)) = vals) {cs : List Value} (hc : litCells m len (if len * m = 0 then #[] else z.cells) vals = some cs.toArray)
    {K : Value → World → Prop} (k : ∀ b w', St w0 F0 w' (cellsR b cs e :: L) G → K (.slice (some ⟨b, 0, none⟩) len len) w') : X P ρ w (.buildSlice t len parts) ty K := by
  intro a ops Q o ho _ ha hw; refine r_buildSlice hst hw ho ht hs hz (Nat.le_of_ble_eq_true hl) (cs := cs) ?_ ?_
  · rw [ha, hp]; exact hc
  · intro b w' h; exact ⟨_, rfl, k b w' h⟩
theorem lit3s (z : Array Value) (a b c d e f : Value) : litCells 2 3 z [(0, .agg #[a, b]), (1, .agg #[c, d]), (2, .agg #[e, f])] = some [a, b, c, d, e, f].toArray := by
  unfold litCells; have hl : ((Array.range (3 * 2)).map (z[· % z.size]!)).toList.length = 6 := by simp
  generalize (Array.range (3 * 2)).map (z[· % z.size]!) = arr at hl; obtain ⟨l⟩ := arr
  match l, hl with
  | [x0, x1, x2, x3, x4, x5], _ => rfl
theorem res_at (hag : ∀ w, (isAgg t).run P w = .ok true w) {m : Nat} (hsz : ∀ w, (sizeOf t).run P w = .ok m w) (j : Nat) {p : Nat} {ms : List Value} {e : TypeId} (hst : St w0 F0 w L G) (hL : L[j]? = some (cellsR p ms e)) (hm : ms.length = m) : (loadVar t ⟨p, 0, none⟩).run P w = .ok (.agg ms.toArray) w :=
  run_load_agg (w := w) (ad := ⟨p, 0, none⟩) (vs := ms) hag hsz hm (fun j' v h => by rw [add_lit', hst.cell (.inl (List.mem_of_getElem? hL)) (0 + j'), Nat.zero_add]; exact h)
end
end Go.Proofs.YtaanjifekgfemaaGreat.K
end
section
namespace Go.Proofs.YtaanjifekgfemaaGreat.Cl
open Tryz
open Go.RowKit Go.Proofs.YtaanjifekgfemaaGreat.K Go.Proofs.YtaanjifekgfemaaGreat.W
theorem ret_int {i j : Int} (h : i = j) : Ending.returned (.int .i64 i) = .returned (.int .i64 j) := by rw [h]
theorem foldl_snoc {α : Type} (f : α → Int → α) (a : α) {l : List Int} {k : Nat} (h : k < l.length) : (l.take (k + 1)).foldl f a = f ((l.take k).foldl f a) (l.getD k 0) := by
  rw [List.take_succ_eq_append_getElem h, List.foldl_append]; simp [h]
theorem adds_snoc {l : List Int} {k : Nat} (h : k < l.length) : adds (l.take (k + 1)) = clip (adds (l.take k) + clip (l.getD k 0)) := foldl_snoc _ _ h
theorem maxs_snoc {l : List Int} {k : Nat} (h : k < l.length) : maxs (l.take (k + 1)) = max (maxs (l.take k)) (clip (l.getD k 0)) := foldl_snoc _ _ h
theorem maxs_in (l : List Int) : -2305843009213693952 ≤ maxs l ∧ maxs l ≤ 2305843009213693952 := by
  unfold maxs
  have : ∀ (l : List Int) (a : Int), (-2305843009213693952 ≤ a ∧ a ≤ 2305843009213693952) → -2305843009213693952 ≤ l.foldl (fun n x => max n (clip x)) a ∧ l.foldl (fun n x => max n (clip x)) a ≤ 2305843009213693952 := by
    intro l
    induction l with
    | nil => intro a h; exact h
    | cons x l ih => intro a h; have := clip_in x; exact ih _ (by show _ ≤ max a (clip x) ∧ max a (clip x) ≤ _; omega)
  exact this l _ (by omega)
theorem prod_in {x y : Int} (hx : 0 ≤ x ∧ x ≤ 2305843009213693952) (hy : 0 ≤ y ∧ y ≤ 2305843009213693952) (h : x = 0 ∨ y ≤ 2305843009213693952 / x) : 0 ≤ x * y ∧ x * y ≤ 2305843009213693952 := by
  have := mulp_in hx hy; unfold mulp at this; rwa [if_pos h] at this
theorem cf38 : CF 38 := fun _ _ => by simp [go_sem]
theorem cf39 : CF 39 := fun _ _ => by simp [go_sem]
theorem cf67 : CF 67 := fun _ _ => by simp [go_sem]
theorem cf75 : CF 75 := fun _ _ => by simp [go_sem]
theorem bound_any (x : Int) (lo : Int) (hi : Int) (w0 w : World) (F0 : List Nat) (L G : List Res) (hst : St w0 F0 w L G)  :
    Calls Tryz.prog 39 #[.int .i64 x, .int .i64 lo, .int .i64 hi] w fun e w' => e = .returned (.int .i64 (bound x lo hi)) ∧ St w0 F0 w' L G := by
  refine W.func func39 rfl ntmps39 rfl<|W.sr rfl<|hst.y rfl (Y.assignI rfl)<|Ops.done rfl<|W.seq rfl<|W.block rfl<|W.sr rfl<|hst.y rfl (Y.moveI rfl)<|hst.y rfl (Y.moveI rfl)<|hst.yb rfl (Y.lss rfl rfl) (fun b10 hb10 => hst.y rfl (Y.moveB rfl)<|?_); cases b10
  · replace hb10 := dF hb10; refine hst.y rfl (Y.moveI rfl)<|hst.y rfl (Y.moveI rfl)<|hst.yb rfl (Y.lss rfl rfl) (fun b14 hb14 => hst.y rfl (Y.pB rfl rfl)<|hst.y rfl (Y.assignB rfl)<|Ops.done rfl<|?_); cases b14
    · replace hb14 := dF hb14; refine W.condF rfl rfl<|W.sr rfl<|hst.y rfl (Y.moveI rfl)<|hst.y rfl (Y.moveI rfl)<|hst.yb rfl (Y.gtr rfl rfl) (fun b20 hb20 => hst.y rfl (Y.assignB rfl)<|Ops.done rfl<|?_); cases b20
      · replace hb20 := dF hb20; refine W.condF rfl rfl<|W.skip rfl<|W.sr rfl<|hst.y rfl (Y.moveI rfl)<|hst.y rfl (Y.assignI rfl)<|Ops.done rfl<|W.ret rfl<|⟨_, Rslt.one results39 rfl, ?_⟩; exact ⟨ret_int (by unfold bound; repeat' split <;> omega), hst⟩
      · replace hb20 := dT hb20; refine W.condT rfl rfl<|W.sr rfl<|hst.y rfl (Y.moveI rfl)<|hst.y rfl (Y.assignI rfl)<|Ops.done rfl<|W.ret rfl<|⟨_, Rslt.one results39 rfl, ?_⟩; exact ⟨ret_int (by unfold bound; repeat' split <;> omega), hst⟩
    · replace hb14 := dT hb14; refine W.condT rfl rfl<|W.sr rfl<|hst.y rfl (Y.moveI rfl)<|hst.y rfl (Y.assignI rfl)<|Ops.done rfl<|W.ret rfl<|⟨_, Rslt.one results39 rfl, ?_⟩; exact ⟨ret_int (by unfold bound; repeat' split <;> omega), hst⟩
  · replace hb10 := dT hb10; refine Ops.nn rfl<|Ops.nn rfl<|Ops.nn rfl<|hst.y rfl (Y.pB rfl rfl)<|hst.y rfl (Y.assignB rfl)<|Ops.done rfl<|W.condT rfl rfl<|W.sr rfl<|hst.y rfl (Y.moveI rfl)<|hst.y rfl (Y.assignI rfl)<|Ops.done rfl<|W.ret rfl<|⟨_, Rslt.one results39 rfl, ?_⟩; exact ⟨ret_int (by unfold bound; repeat' split <;> omega), hst⟩
theorem clip_any (x : Int) (w0 w : World) (F0 : List Nat) (L G : List Res) (hst : St w0 F0 w L G)  :
    Calls Tryz.prog 38 #[.int .i64 x] w fun e w' => e = .returned (.int .i64 (clip x)) ∧ St w0 F0 w' L G := by
  refine W.func func38 rfl ntmps38 rfl<|W.sr rfl<|hst.y rfl (Y.assignI rfl)<|Ops.ds rfl rfl<|hst.y rfl (Y.moveI rfl)<|Ops.ww rfl (X.ret cf39 (bound_any _ _ _ _ _ _ _ _ hst ) rfl fun w4 hst => hst.y rfl (Y.assignI rfl)<|Ops.done rfl<|W.ret rfl<|⟨_, Rslt.one results38 rfl, ?_⟩); exact ⟨rfl, hst⟩
theorem adds_any (l : List Int) (A : Option Addr) (cap : Nat) (hl : l.length ≤ 9223372036854775807) (w0 w : World) (F0 : List Nat) (L G : List Res) (hst : St w0 F0 w L G) (hr : Rds L G (.slice A l.length cap) l.length (ivs l)) :
    Calls Tryz.prog 27 #[.slice A l.length cap] w fun e w' => e = .returned (.int .i64 (adds l)) ∧ St w0 F0 w' L G := by
  refine W.func func27 rfl ntmps27 rfl<|W.sr rfl<|hst.y rfl (Y.assignI rfl)<|Ops.ds rfl rfl<|hst.y rfl (Y.assignI rfl)<|Ops.done rfl<|W.seq rfl<|W.sr rfl<|hst.y rfl (Y.moveS rfl)<|hst.y rfl (Y.lenS underlying24 rfl)<|hst.y rfl (Y.moveI rfl)<|Ops.done rfl<|W.block rfl<|?_; refine W.loop (γ := Nat) [(6, .slice _ _ _), (7, .int _ _)] (fun k => [(3, .int .i64 (adds (l.take k))), (8, .int .i64 (k : Int))]) (fun k w => k ≤ l.length ∧ St w0 F0 w L G) (fun k => l.length - k) (0) rfl ⟨rfl, rfl, trivial⟩ ?_ ?_ ?_
  · exact ⟨rfl, rfl, trivial⟩
  · exact ⟨by omega, hst⟩
  · clear hst; rintro k j w3 ⟨hk, hst⟩; refine W.sr rfl<|hst.yb rfl (Y.lss rfl rfl) (fun b9 hb9 => Ops.done rfl<|W.seq rfl<|?_); cases b9
    · replace hb9 := dF hb9; refine W.condF rfl rfl<|W.exit rfl<|W.seq rfl<|?_; have hk1 : k = l.length := by omega
      refine W.region rfl<|hst.y rfl (Y.moveI rfl)<|hst.y rfl (Y.assignI rfl)<|Ops.done rfl<|W.ret rfl<|⟨_, Rslt.one results27 rfl, ?_⟩; exact ⟨ret_int (by rw [hk1, List.take_length]), hst⟩
    · replace hb9 := dT hb9; refine W.condT rfl rfl<|W.skip rfl<|W.seq rfl<|W.block rfl<|W.seq rfl<|?_; have hk1 : k < l.length := by omega
      have hin := adds_in (l.take k); have hc := clip_in (l.getD k 0); refine W.region rfl<|hst.y rfl (Y.indexAddr underlying24 sizeOf3 rfl rfl ((hr.sl hst).ne (by simp [ivs]; omega)) (by omega))<|?_; refine hst.y rfl (Y.loadSl isAgg3 rfl hr (ivs_get hk1))<|hst.y rfl (Y.assignI rfl)<|Ops.done rfl<|W.region rfl<|hst.y rfl (Y.moveI rfl)<|hst.y rfl (Y.moveI rfl)<|Ops.ww rfl (X.ret cf38 (clip_any _ _ _ _ _ _ hst ) rfl fun w14 hst => hst.y rfl (Y.addI rfl rfl (by omega))<|Ops.ww rfl (X.ret cf38 (clip_any _ _ _ _ _ _ hst ) rfl fun w16 hst => hst.y rfl (Y.assignI rfl)<|Ops.done rfl<|W.region rfl<|hst.y rfl (Y.addI rfl rfl (by omega))<|hst.y rfl (Y.moveI rfl)<|Ops.done rfl<|?_)); exact ⟨k + 1, ⟨congrArg (Value.int .i64) (adds_snoc hk1).symm, rfl, trivial⟩, ⟨rfl, rfl, trivial⟩, ⟨by omega, hst⟩, by omega⟩
theorem maxs_any (l : List Int) (A : Option Addr) (cap : Nat) (hl : l.length ≤ 9223372036854775807) (w0 w : World) (F0 : List Nat) (L G : List Res) (hst : St w0 F0 w L G) (hr : Rds L G (.slice A l.length cap) l.length (ivs l)) :
    Calls Tryz.prog 142 #[.slice A l.length cap] w fun e w' => e = .returned (.int .i64 (maxs l)) ∧ St w0 F0 w' L G := by
  refine W.func func142 rfl ntmps142 rfl<|W.sr rfl<|hst.y rfl (Y.assignI rfl)<|Ops.ds rfl rfl<|hst.y rfl (Y.assignI rfl)<|Ops.done rfl<|W.seq rfl<|W.sr rfl<|hst.y rfl (Y.moveS rfl)<|hst.y rfl (Y.lenS underlying24 rfl)<|hst.y rfl (Y.moveI rfl)<|Ops.done rfl<|W.block rfl<|?_; refine W.loop (γ := Nat) [(6, .slice _ _ _), (7, .int _ _)] (fun k => [(3, .int .i64 (maxs (l.take k))), (8, .int .i64 (k : Int))]) (fun k w => k ≤ l.length ∧ St w0 F0 w L G) (fun k => l.length - k) (0) rfl ⟨rfl, rfl, trivial⟩ ?_ ?_ ?_
  · exact ⟨rfl, rfl, trivial⟩
  · exact ⟨by omega, hst⟩
  · clear hst; rintro k j w3 ⟨hk, hst⟩; refine W.sr rfl<|hst.yb rfl (Y.lss rfl rfl) (fun b9 hb9 => Ops.done rfl<|W.seq rfl<|?_); cases b9
    · replace hb9 := dF hb9; refine W.condF rfl rfl<|W.exit rfl<|W.seq rfl<|?_; have hk1 : k = l.length := by omega
      refine W.region rfl<|hst.y rfl (Y.moveI rfl)<|hst.y rfl (Y.assignI rfl)<|Ops.done rfl<|W.ret rfl<|⟨_, Rslt.one results142 rfl, ?_⟩; exact ⟨ret_int (by rw [hk1, List.take_length]), hst⟩
    · replace hb9 := dT hb9; refine W.condT rfl rfl<|W.skip rfl<|W.seq rfl<|W.block rfl<|W.seq rfl<|?_; have hk1 : k < l.length := by omega
      have hin := maxs_in (l.take k); have hc := clip_in (l.getD k 0); refine W.region rfl<|hst.y rfl (Y.indexAddr underlying24 sizeOf3 rfl rfl ((hr.sl hst).ne (by simp [ivs]; omega)) (by omega))<|?_; refine hst.y rfl (Y.loadSl isAgg3 rfl hr (ivs_get hk1))<|hst.y rfl (Y.assignI rfl)<|Ops.done rfl<|W.region rfl<|hst.y rfl (Y.moveI rfl)<|hst.y rfl (Y.moveI rfl)<|Ops.ww rfl (X.ret cf38 (clip_any _ _ _ _ _ _ hst ) rfl fun w14 hst => hst.y rfl (Y.max2 rfl rfl)<|hst.y rfl (Y.assignI rfl)<|Ops.done rfl<|W.region rfl<|hst.y rfl (Y.addI rfl rfl (by omega))<|hst.y rfl (Y.moveI rfl)<|Ops.done rfl<|?_); exact ⟨k + 1, ⟨congrArg (Value.int .i64) (maxs_snoc hk1).symm, rfl, trivial⟩, ⟨rfl, rfl, trivial⟩, ⟨by omega, hst⟩, by omega⟩
theorem sub_any (a : Int) (b : Int) (w0 w : World) (F0 : List Nat) (L G : List Res) (hst : St w0 F0 w L G)  :
    Calls Tryz.prog 53 #[.int .i64 a, .int .i64 b] w fun e w' => e = .returned (.int .i64 (sub a b)) ∧ St w0 F0 w' L G := by
  refine W.func func53 rfl ntmps53 rfl<|W.sr rfl<|hst.y rfl (Y.assignI rfl)<|Ops.done rfl<|W.seq rfl<|?_; have ha := clip_in a; have hb := clip_in b; refine W.region rfl<|hst.y rfl (Y.moveI rfl)<|Ops.ww rfl (X.ret cf38 (clip_any _ _ _ _ _ _ hst ) rfl fun w6 hst => hst.y rfl (Y.moveI rfl)<|Ops.ww rfl (X.ret cf38 (clip_any _ _ _ _ _ _ hst ) rfl fun w8 hst => hst.y rfl (Y.subI rfl rfl (by omega))<|Ops.ww rfl (X.ret cf38 (clip_any _ _ _ _ _ _ hst ) rfl fun w10 hst => hst.y rfl (Y.assignI rfl)<|Ops.done rfl<|W.ret rfl<|⟨_, Rslt.one results53 rfl, ?_⟩))); exact ⟨rfl, hst⟩
theorem neg_any (a : Int) (w0 w : World) (F0 : List Nat) (L G : List Res) (hst : St w0 F0 w L G)  :
    Calls Tryz.prog 75 #[.int .i64 a] w fun e w' => e = .returned (.int .i64 (neg a)) ∧ St w0 F0 w' L G := by
  refine W.func func75 rfl ntmps75 rfl<|W.sr rfl<|hst.y rfl (Y.assignI rfl)<|Ops.done rfl<|W.seq rfl<|?_; have ha := clip_in a; refine W.region rfl<|hst.y rfl (Y.moveI rfl)<|Ops.ww rfl (X.ret cf38 (clip_any _ _ _ _ _ _ hst ) rfl fun w4 hst => hst.y rfl (Y.negI rfl (by omega))<|hst.y rfl (Y.assignI rfl)<|Ops.done rfl<|W.ret rfl<|⟨_, Rslt.one results75 rfl, ?_⟩); exact ⟨rfl, hst⟩
theorem mag_any (a : Int) (w0 w : World) (F0 : List Nat) (L G : List Res) (hst : St w0 F0 w L G)  :
    Calls Tryz.prog 67 #[.int .i64 a] w fun e w' => e = .returned (.int .i64 (mag a)) ∧ St w0 F0 w' L G := by
  refine W.func func67 rfl ntmps67 rfl<|W.sr rfl<|hst.y rfl (Y.assignI rfl)<|Ops.done rfl<|W.seq rfl<|W.sr rfl<|hst.y rfl (Y.moveI rfl)<|hst.yb rfl (Y.lss rfl rfl) (fun b4 hb4 => Ops.done rfl<|?_); cases b4
  · replace hb4 := dF hb4; refine W.condF rfl rfl<|W.skip rfl<|W.sr rfl<|hst.y rfl (Y.moveI rfl)<|Ops.ww rfl (X.ret cf38 (clip_any _ _ _ _ _ _ hst ) rfl fun w8 hst => hst.y rfl (Y.assignI rfl)<|Ops.done rfl<|W.ret rfl<|⟨_, Rslt.one results67 rfl, ?_⟩); exact ⟨ret_int (by unfold mag; split <;> first | rfl | omega), hst⟩
  · replace hb4 := dT hb4; refine W.condT rfl rfl<|W.sr rfl<|hst.y rfl (Y.moveI rfl)<|Ops.ww rfl (X.ret cf75 (neg_any _ _ _ _ _ _ hst ) rfl fun w6 hst => hst.y rfl (Y.assignI rfl)<|Ops.done rfl<|W.ret rfl<|⟨_, Rslt.one results67 rfl, ?_⟩); exact ⟨ret_int (by unfold mag; split <;> first | rfl | omega), hst⟩
theorem mul_any (a : Int) (b : Int) (w0 w : World) (F0 : List Nat) (L G : List Res) (hst : St w0 F0 w L G)  :
    Calls Tryz.prog 45 #[.int .i64 a, .int .i64 b] w fun e w' => e = .returned (.int .i64 (mul a b)) ∧ St w0 F0 w' L G := by
  refine W.func func45 rfl ntmps45 rfl<|W.sr rfl<|hst.y rfl (Y.assignI rfl)<|Ops.ds rfl rfl<|hst.y rfl (Y.moveI rfl)<|Ops.ww rfl (X.ret cf67 (mag_any _ _ _ _ _ _ hst ) rfl fun w9 hst => hst.y rfl (Y.moveI rfl)<|Ops.ww rfl (X.ret cf67 (mag_any _ _ _ _ _ _ hst ) rfl fun w11 hst => hst.y rfl (Y.assignI rfl)<|hst.y rfl (Y.assignI rfl)<|Ops.ds rfl rfl<|hst.y rfl (Y.assignI rfl)<|Ops.done rfl<|W.seq rfl<|W.seq rfl<|?_)); have ha := mag_in a; have hb := mag_in b; refine W.region rfl<|hst.y rfl (Y.moveI rfl)<|hst.yb rfl (Y.eql rfl rfl) (fun b13 hb13 => hst.y rfl (Y.moveB rfl)<|?_); cases b13
  · replace hb13 := dF hb13; refine hst.y rfl (Y.moveI rfl)<|hst.y rfl (Y.moveI rfl)<|hst.y rfl (Y.quoI rfl rfl (by omega))<|hst.yb rfl (Y.leq rfl rfl) (fun b18 hb18 => hst.y rfl (Y.pB rfl rfl)<|Ops.done rfl<|?_); refine W.cut [(0, .int _ _), (1, .int _ _)] (fun _ : Unit => [(7, .int .i64 (mulp (mag a) (mag b)))]) (fun _ w => St w0 F0 w L G) ⟨rfl, rfl, trivial⟩ ?_ ?_
    rotate_left
    · clear hst; rintro _ j w3 hst; refine W.seq rfl<|W.sr rfl<|hst.y rfl (Y.moveI rfl)<|hst.yb rfl (Y.lss rfl rfl) (fun b24 hb24 => ?_); cases b24
      · replace hb24 := dF hb24; refine hst.y rfl (Y.moveI rfl)<|hst.yb rfl (Y.lss rfl rfl) (fun b26 hb26 => ?_); cases b26
        · replace hb26 := dF hb26; refine hst.yb rfl (Y.neB underlying4 rfl rfl) (fun b27 hb27 => Ops.done rfl<|?_); cases b27
          · replace hb27 := dF hb27; refine W.condF rfl rfl<|W.skip rfl<|W.sr rfl<|hst.y rfl (Y.moveI rfl)<|hst.y rfl (Y.assignI rfl)<|Ops.done rfl<|W.ret rfl<|⟨_, Rslt.one results45 rfl, ?_⟩; refine ⟨ret_int ?_, hst⟩; unfold mul; split <;> first | with_reducible rfl | (exfalso; omega) | exact absurd (by decide) hb27
          · replace hb27 := dT hb27; refine W.condT rfl rfl<|W.sr rfl<|hst.y rfl (Y.moveI rfl)<|hst.y rfl (Y.negI rfl (by have := mulp_in ha hb; omega))<|?_; refine hst.y rfl (Y.assignI rfl)<|Ops.done rfl<|W.ret rfl<|⟨_, Rslt.one results45 rfl, ?_⟩; refine ⟨ret_int ?_, hst⟩; unfold mul; split <;> first | with_reducible rfl | (exfalso; omega) | exact absurd (by decide) hb27
        · replace hb26 := dT hb26; refine hst.yb rfl (Y.neB underlying4 rfl rfl) (fun b27 hb27 => Ops.done rfl<|?_); cases b27
          · replace hb27 := dF hb27; refine W.condF rfl rfl<|W.skip rfl<|W.sr rfl<|hst.y rfl (Y.moveI rfl)<|hst.y rfl (Y.assignI rfl)<|Ops.done rfl<|W.ret rfl<|⟨_, Rslt.one results45 rfl, ?_⟩; refine ⟨ret_int ?_, hst⟩; unfold mul; split <;> first | with_reducible rfl | (exfalso; omega) | exact absurd (by decide) hb27
          · replace hb27 := dT hb27; refine W.condT rfl rfl<|W.sr rfl<|hst.y rfl (Y.moveI rfl)<|hst.y rfl (Y.negI rfl (by have := mulp_in ha hb; omega))<|?_; refine hst.y rfl (Y.assignI rfl)<|Ops.done rfl<|W.ret rfl<|⟨_, Rslt.one results45 rfl, ?_⟩; refine ⟨ret_int ?_, hst⟩; unfold mul; split <;> first | with_reducible rfl | (exfalso; omega) | exact absurd (by decide) hb27
      · replace hb24 := dT hb24; refine hst.y rfl (Y.moveI rfl)<|hst.yb rfl (Y.lss rfl rfl) (fun b26 hb26 => ?_); cases b26
        · replace hb26 := dF hb26; refine hst.yb rfl (Y.neB underlying4 rfl rfl) (fun b27 hb27 => Ops.done rfl<|?_); cases b27
          · replace hb27 := dF hb27; refine W.condF rfl rfl<|W.skip rfl<|W.sr rfl<|hst.y rfl (Y.moveI rfl)<|hst.y rfl (Y.assignI rfl)<|Ops.done rfl<|W.ret rfl<|⟨_, Rslt.one results45 rfl, ?_⟩; refine ⟨ret_int ?_, hst⟩; unfold mul; split <;> first | with_reducible rfl | (exfalso; omega) | exact absurd (by decide) hb27
          · replace hb27 := dT hb27; refine W.condT rfl rfl<|W.sr rfl<|hst.y rfl (Y.moveI rfl)<|hst.y rfl (Y.negI rfl (by have := mulp_in ha hb; omega))<|?_; refine hst.y rfl (Y.assignI rfl)<|Ops.done rfl<|W.ret rfl<|⟨_, Rslt.one results45 rfl, ?_⟩; refine ⟨ret_int ?_, hst⟩; unfold mul; split <;> first | with_reducible rfl | (exfalso; omega) | exact absurd (by decide) hb27
        · replace hb26 := dT hb26; refine hst.yb rfl (Y.neB underlying4 rfl rfl) (fun b27 hb27 => Ops.done rfl<|?_); cases b27
          · replace hb27 := dF hb27; refine W.condF rfl rfl<|W.skip rfl<|W.sr rfl<|hst.y rfl (Y.moveI rfl)<|hst.y rfl (Y.assignI rfl)<|Ops.done rfl<|W.ret rfl<|⟨_, Rslt.one results45 rfl, ?_⟩; refine ⟨ret_int ?_, hst⟩; unfold mul; split <;> first | with_reducible rfl | (exfalso; omega) | exact absurd (by decide) hb27
          · replace hb27 := dT hb27; refine W.condT rfl rfl<|W.sr rfl<|hst.y rfl (Y.moveI rfl)<|hst.y rfl (Y.negI rfl (by have := mulp_in ha hb; omega))<|?_; refine hst.y rfl (Y.assignI rfl)<|Ops.done rfl<|W.ret rfl<|⟨_, Rslt.one results45 rfl, ?_⟩; refine ⟨ret_int ?_, hst⟩; unfold mul; split <;> first | with_reducible rfl | (exfalso; omega) | exact absurd (by decide) hb27
    cases b18
    · replace hb18 := dF hb18; refine W.condF rfl rfl<|W.skip rfl<|?_; refine ⟨(), ⟨congrArg (Value.int .i64) (by unfold mulp; first | rw [if_pos (by omega)] | rw [if_neg (by omega)]), trivial⟩, ⟨rfl, rfl, trivial⟩, hst⟩
    · replace hb18 := dT hb18; refine W.condT rfl rfl<|W.region rfl<|hst.y rfl (Y.moveI rfl)<|hst.y rfl (Y.moveI rfl)<|hst.y rfl (Y.mulI rfl rfl (by have := prod_in ha hb (by omega); omega))<|?_; refine hst.y rfl (Y.assignI rfl)<|Ops.done rfl<|?_; refine ⟨(), ⟨congrArg (Value.int .i64) (by unfold mulp; first | rw [if_pos (by omega)] | rw [if_neg (by omega)]), trivial⟩, ⟨rfl, rfl, trivial⟩, hst⟩
  · replace hb13 := dT hb13; refine Ops.nn rfl<|Ops.nn rfl<|Ops.nn rfl<|Ops.nn rfl<|hst.y rfl (Y.pB rfl rfl)<|Ops.done rfl<|?_; refine W.cut [(0, .int _ _), (1, .int _ _)] (fun _ : Unit => [(7, .int .i64 (mulp (mag a) (mag b)))]) (fun _ w => St w0 F0 w L G) ⟨rfl, rfl, trivial⟩ ?_ ?_
    rotate_left
    · clear hst; rintro _ j w3 hst; refine W.seq rfl<|W.sr rfl<|hst.y rfl (Y.moveI rfl)<|hst.yb rfl (Y.lss rfl rfl) (fun b24 hb24 => ?_); cases b24
      · replace hb24 := dF hb24; refine hst.y rfl (Y.moveI rfl)<|hst.yb rfl (Y.lss rfl rfl) (fun b26 hb26 => ?_); cases b26
        · replace hb26 := dF hb26; refine hst.yb rfl (Y.neB underlying4 rfl rfl) (fun b27 hb27 => Ops.done rfl<|?_); cases b27
          · replace hb27 := dF hb27; refine W.condF rfl rfl<|W.skip rfl<|W.sr rfl<|hst.y rfl (Y.moveI rfl)<|hst.y rfl (Y.assignI rfl)<|Ops.done rfl<|W.ret rfl<|⟨_, Rslt.one results45 rfl, ?_⟩; refine ⟨ret_int ?_, hst⟩; unfold mul; split <;> first | with_reducible rfl | (exfalso; omega) | exact absurd (by decide) hb27
          · replace hb27 := dT hb27; refine W.condT rfl rfl<|W.sr rfl<|hst.y rfl (Y.moveI rfl)<|hst.y rfl (Y.negI rfl (by have := mulp_in ha hb; omega))<|?_; refine hst.y rfl (Y.assignI rfl)<|Ops.done rfl<|W.ret rfl<|⟨_, Rslt.one results45 rfl, ?_⟩; refine ⟨ret_int ?_, hst⟩; unfold mul; split <;> first | with_reducible rfl | (exfalso; omega) | exact absurd (by decide) hb27
        · replace hb26 := dT hb26; refine hst.yb rfl (Y.neB underlying4 rfl rfl) (fun b27 hb27 => Ops.done rfl<|?_); cases b27
          · replace hb27 := dF hb27; refine W.condF rfl rfl<|W.skip rfl<|W.sr rfl<|hst.y rfl (Y.moveI rfl)<|hst.y rfl (Y.assignI rfl)<|Ops.done rfl<|W.ret rfl<|⟨_, Rslt.one results45 rfl, ?_⟩; refine ⟨ret_int ?_, hst⟩; unfold mul; split <;> first | with_reducible rfl | (exfalso; omega) | exact absurd (by decide) hb27
          · replace hb27 := dT hb27; refine W.condT rfl rfl<|W.sr rfl<|hst.y rfl (Y.moveI rfl)<|hst.y rfl (Y.negI rfl (by have := mulp_in ha hb; omega))<|?_; refine hst.y rfl (Y.assignI rfl)<|Ops.done rfl<|W.ret rfl<|⟨_, Rslt.one results45 rfl, ?_⟩; refine ⟨ret_int ?_, hst⟩; unfold mul; split <;> first | with_reducible rfl | (exfalso; omega) | exact absurd (by decide) hb27
      · replace hb24 := dT hb24; refine hst.y rfl (Y.moveI rfl)<|hst.yb rfl (Y.lss rfl rfl) (fun b26 hb26 => ?_); cases b26
        · replace hb26 := dF hb26; refine hst.yb rfl (Y.neB underlying4 rfl rfl) (fun b27 hb27 => Ops.done rfl<|?_); cases b27
          · replace hb27 := dF hb27; refine W.condF rfl rfl<|W.skip rfl<|W.sr rfl<|hst.y rfl (Y.moveI rfl)<|hst.y rfl (Y.assignI rfl)<|Ops.done rfl<|W.ret rfl<|⟨_, Rslt.one results45 rfl, ?_⟩; refine ⟨ret_int ?_, hst⟩; unfold mul; split <;> first | with_reducible rfl | (exfalso; omega) | exact absurd (by decide) hb27
          · replace hb27 := dT hb27; refine W.condT rfl rfl<|W.sr rfl<|hst.y rfl (Y.moveI rfl)<|hst.y rfl (Y.negI rfl (by have := mulp_in ha hb; omega))<|?_; refine hst.y rfl (Y.assignI rfl)<|Ops.done rfl<|W.ret rfl<|⟨_, Rslt.one results45 rfl, ?_⟩; refine ⟨ret_int ?_, hst⟩; unfold mul; split <;> first | with_reducible rfl | (exfalso; omega) | exact absurd (by decide) hb27
        · replace hb26 := dT hb26; refine hst.yb rfl (Y.neB underlying4 rfl rfl) (fun b27 hb27 => Ops.done rfl<|?_); cases b27
          · replace hb27 := dF hb27; refine W.condF rfl rfl<|W.skip rfl<|W.sr rfl<|hst.y rfl (Y.moveI rfl)<|hst.y rfl (Y.assignI rfl)<|Ops.done rfl<|W.ret rfl<|⟨_, Rslt.one results45 rfl, ?_⟩; refine ⟨ret_int ?_, hst⟩; unfold mul; split <;> first | with_reducible rfl | (exfalso; omega) | exact absurd (by decide) hb27
          · replace hb27 := dT hb27; refine W.condT rfl rfl<|W.sr rfl<|hst.y rfl (Y.moveI rfl)<|hst.y rfl (Y.negI rfl (by have := mulp_in ha hb; omega))<|?_; refine hst.y rfl (Y.assignI rfl)<|Ops.done rfl<|W.ret rfl<|⟨_, Rslt.one results45 rfl, ?_⟩; refine ⟨ret_int ?_, hst⟩; unfold mul; split <;> first | with_reducible rfl | (exfalso; omega) | exact absurd (by decide) hb27
    refine W.condT rfl rfl<|W.region rfl<|hst.y rfl (Y.moveI rfl)<|hst.y rfl (Y.moveI rfl)<|hst.y rfl (Y.mulI rfl rfl (by have := prod_in ha hb (by omega); omega))<|?_; refine hst.y rfl (Y.assignI rfl)<|Ops.done rfl<|?_; refine ⟨(), ⟨congrArg (Value.int .i64) (by unfold mulp; first | rw [if_pos (by omega)] | rw [if_neg (by omega)]), trivial⟩, ⟨rfl, rfl, trivial⟩, hst⟩
end Go.Proofs.YtaanjifekgfemaaGreat.Cl
end
section
namespace Go.Proofs.YtaanjifekgfemaaGreat.Cl
open Tryz
open Go.RowKit Go.Proofs.YtaanjifekgfemaaGreat.K Go.Proofs.YtaanjifekgfemaaGreat.W
attribute [local irreducible] bound clip adds sub neg mag mulp mul maxs
theorem bd53_ {S ρ ty} {parts : Array (Nat × Operand)}  (hp : (parts.toList.map fun x => (x.1, ev ρ x.2)) = []) : Y Tryz.prog S ρ (.build 53 parts) ty (.agg #[Value.int .i64 0, Value.int .i64 0]) :=
  Y.build hp fun w => by simp [Instr.build, go_sem]
theorem bd53_0_1 {S ρ ty} {parts : Array (Nat × Operand)} {x0 : Int} {x1 : Int} (hp : (parts.toList.map fun x => (x.1, ev ρ x.2)) = [(0, Value.int .i64 x0), (1, Value.int .i64 x1)]) : Y Tryz.prog S ρ (.build 53 parts) ty (.agg #[Value.int .i64 x0, Value.int .i64 x1]) :=
  Y.build hp fun w => by simp [Instr.build, go_sem]
theorem fa23_2 : FA 23 2 2 := fun _ _ => by simp [Instr.fieldAt, Instr.sureAddr, go_sem]
theorem fa23_4 : FA 23 4 4 := fun _ _ => by simp [Instr.fieldAt, Instr.sureAddr, go_sem]
theorem fa23_5 : FA 23 5 5 := fun _ _ => by simp [Instr.fieldAt, Instr.sureAddr, go_sem]
theorem fa23_6 : FA 23 6 6 := fun _ _ => by simp [Instr.fieldAt, Instr.sureAddr, go_sem]
theorem fa23_7 : FA 23 7 7 := fun _ _ => by simp [Instr.fieldAt, Instr.sureAddr, go_sem]
theorem fa23_9 : FA 23 9 9 := fun _ _ => by simp [Instr.fieldAt, Instr.sureAddr, go_sem]
theorem fa23_10 : FA 23 10 10 := fun _ _ => by simp [Instr.fieldAt, Instr.sureAddr, go_sem]
theorem fa53_0 : FA 53 0 0 := fun _ _ => by simp [Instr.fieldAt, Instr.sureAddr, go_sem]
theorem fa53_1 : FA 53 1 1 := fun _ _ => by simp [Instr.fieldAt, Instr.sureAddr, go_sem]
theorem cf27 : CF 27 := fun _ _ => by simp [go_sem]
theorem cf45 : CF 45 := fun _ _ => by simp [go_sem]
theorem cf46 : CF 46 := fun _ _ => by simp [go_sem]
theorem cf53 : CF 53 := fun _ _ => by simp [go_sem]
theorem cf68 : CF 68 := fun _ _ => by simp [go_sem]
theorem cf69 : CF 69 := fun _ _ => by simp [go_sem]
theorem cf70 : CF 70 := fun _ _ => by simp [go_sem]
theorem cf129 : CF 129 := fun _ _ => by simp [go_sem]
theorem cf142 : CF 142 := fun _ _ => by simp [go_sem]
theorem of_any (lo : Int) (hi : Int) (w0 w : World) (F0 : List Nat) (L G : List Res) (hst : St w0 F0 w L G)  :
    Calls Tryz.prog 35 #[.int .i64 lo, .int .i64 hi] w fun e w' => e = .returned (.agg #[.int .i64 (Sp.of lo hi).lo, .int .i64 (Sp.of lo hi).hi]) ∧ St w0 F0 w' L G := by
  refine W.func func35 rfl ntmps35 rfl<|W.sr rfl<|Ops.ww rfl (X.allocA hst zeroValue53 fun p4 w4 hst => Ops.ds rfl rfl<|hst.y rfl (Y.moveI rfl)<|Ops.ww rfl (X.ret cf38 (clip_any _ _ _ _ _ _ hst ) rfl fun w6 hst => hst.y rfl (Y.moveI rfl)<|Ops.ww rfl (X.ret cf38 (clip_any _ _ _ _ _ _ hst ) rfl fun w8 hst => hst.y rfl (bd53_0_1 rfl)<|Ops.ww rfl (X.storeS hst 0 sizeOf53 rfl rfl rfl rfl rfl (lZ rfl) rfl rfl fun w1_5 hst => Ops.done rfl<|W.ret rfl<|⟨_, Rslt.cell results35 rfl (res_at isAgg53 sizeOf53 0 hst rfl rfl), ?_⟩)))); exact ⟨rfl, (hst.dr 1)⟩
theorem empty_any (slo shi : Int) (w0 w : World) (F0 : List Nat) (L G : List Res) (hst : St w0 F0 w L G)  :
    Calls Tryz.prog 36 #[.agg #[.int .i64 slo, .int .i64 shi]] w fun e w' => ∃ b, e = .returned (.bool b) ∧ b = decide (shi < slo) ∧ St w0 F0 w' L G := by
  refine W.func func36 rfl ntmps36 rfl<|W.sr rfl<|Ops.ww rfl (X.boxA hst rfl fun p1 w1 hst => hst.y rfl (Y.assignB rfl)<|Ops.ds rfl rfl<|hst.y rfl (Y.fieldAddr fa53_0 rfl)<|hst.y rfl (Y.load 0 isAgg3 rfl rfl rfl)<|hst.y rfl (Y.fieldAddr fa53_1 rfl)<|hst.y rfl (Y.load 0 isAgg3 rfl rfl rfl)<|hst.yb rfl (Y.gtr rfl rfl) (fun b7 hb7 => hst.y rfl (Y.assignB rfl)<|Ops.done rfl<|W.ret rfl<|⟨_, Rslt.one results36 rfl, ?_⟩)); exact ⟨_, rfl, by assumption, (hst.dr 1)⟩
theorem all_any  (w0 w : World) (F0 : List Nat) (L G : List Res) (hst : St w0 F0 w L G)  :
    Calls Tryz.prog 37 #[] w fun e w' => e = .returned (.agg #[.int .i64 (Sp.all).lo, .int .i64 (Sp.all).hi]) ∧ St w0 F0 w' L G := by
  refine W.func func37 rfl ntmps37 rfl<|W.sr rfl<|Ops.ww rfl (X.allocA hst zeroValue53 fun p0 w0 hst => Ops.ds rfl rfl<|hst.y rfl (bd53_0_1 rfl)<|Ops.ww rfl (X.storeS hst 0 sizeOf53 rfl rfl rfl rfl rfl (lZ rfl) rfl rfl fun w1_1 hst => Ops.done rfl<|W.ret rfl<|⟨_, Rslt.cell results37 rfl (res_at isAgg53 sizeOf53 0 hst rfl rfl), ?_⟩)); exact ⟨rfl, (hst.dr 1)⟩
theorem shift_any (slo shi : Int) (lo : Int) (hi : Int) (w0 w : World) (F0 : List Nat) (L G : List Res) (hst : St w0 F0 w L G)  :
    Calls Tryz.prog 129 #[.agg #[.int .i64 slo, .int .i64 shi], .int .i64 lo, .int .i64 hi] w fun e w' => e = .returned (.agg #[.int .i64 (Sp.shift ⟨slo, shi⟩ lo hi).lo, .int .i64 (Sp.shift ⟨slo, shi⟩ lo hi).hi]) ∧ St w0 F0 w' L G := by
  refine W.func func129 rfl ntmps129 rfl<|W.sr rfl<|Ops.ww rfl (X.boxA hst rfl fun p3 w3 hst => Ops.ww rfl (X.allocA hst zeroValue53 fun p6 w6 hst => Ops.done rfl<|W.seq rfl<|W.drawn rfl (by kernel_rfl) (Ctx _ _ (_) (_)) [11] (.op 0 0 (.op 1 0 (.op 2 0 (.op 5 0 (.op 6 0 (.op 7 0 (.alt 3 (.alt 4 (.op 8 1 (.op 9 1 (.op 10 0 (.op 11 1 .nil)))) (.op 8 1 (.op 4 1 (.op 9 1 (.op 10 0 (.op 11 1 .nil)))))) (.op 8 1 (.op 3 1 (.op 4 1 (.op 9 1 (.op 10 0 (.op 11 1 .nil))))))))))))) rfl (by kernel_rfl) hst.drew.ctx<|?_)); replace hst := hst.drew; generalize World.drew _ = wd at hst ⊢; refine hst.z rfl (Y.fieldAddr fa53_0 rfl)<|hst.z rfl (Y.load 1 isAgg3 rfl rfl rfl)<|hst.z rfl (Y.moveI rfl)<|hst.z rfl (Y.fieldAddr fa53_1 rfl)<|hst.z rfl (Y.load 1 isAgg3 rfl rfl rfl)<|hst.z rfl (Y.moveI rfl)<|?_; refine Drw.alts (Alts.more ?_ (Alts.one ?_))
  · refine One.ww rfl (X.lits hst underlying24 sizeOf3 zeroValue3 (by rfl) (by rfl) (by rfl) [.int _ _, .int _ _] (by rfl) (by rfl) fun p10 w10 hst => ⟨(hst.cx 1), ?_⟩); refine Drw.alts (Alts.more ?_ (Alts.one ?_))
    · refine One.ww rfl (X.ret cf27 (adds_any [slo, lo] _ _ (by simp) _ _ _ _ _ hst (Rds.ofCells 0 rfl 2 2)) rfl fun w11 hst => ⟨(hst.cx 1), ?_⟩); refine Drw.ww rfl (X.lits hst underlying24 sizeOf3 zeroValue3 (by rfl) (by rfl) (by rfl) [.int _ _, .int _ _] (by rfl) (by rfl) fun p15 w15 hst => ⟨(hst.cx 2), ?_⟩); refine Drw.ww rfl (X.ret cf27 (adds_any [shi, hi] _ _ (by simp) _ _ _ _ _ hst (Rds.ofCells 0 rfl 2 2)) rfl fun w16 hst => ⟨(hst.cx 2), ?_⟩); refine Drw.q rfl (hst.cx 2) (bd53_0_1 rfl)<|Drw.z rfl rfl rfl rfl (X.storeS hst 2 sizeOf53 rfl rfl rfl rfl rfl (lZ rfl) rfl rfl fun w1_11 hst => Drw.done<|W.ret rfl<|⟨_, Rslt.cell results129 rfl (res_at isAgg53 sizeOf53 2 hst rfl rfl), ?_⟩); exact ⟨rfl, (hst.dr 4)⟩
    · refine One.ww rfl (X.lits hst underlying24 sizeOf3 zeroValue3 (by rfl) (by rfl) (by rfl) [.int _ _, .int _ _] (by rfl) (by rfl) fun p15 w15 hst => ⟨(hst.cx 2), ?_⟩); refine Drw.ww rfl (X.ret cf27 (adds_any [slo, lo] _ _ (by simp) _ _ _ _ _ hst (Rds.ofCells 1 rfl 2 2)) rfl fun w11 hst => ⟨(hst.cx 2), ?_⟩); refine Drw.ww rfl (X.ret cf27 (adds_any [shi, hi] _ _ (by simp) _ _ _ _ _ hst (Rds.ofCells 0 rfl 2 2)) rfl fun w16 hst => ⟨(hst.cx 2), ?_⟩); refine Drw.q rfl (hst.cx 2) (bd53_0_1 rfl)<|Drw.z rfl rfl rfl rfl (X.storeS hst 2 sizeOf53 rfl rfl rfl rfl rfl (lZ rfl) rfl rfl fun w1_11 hst => Drw.done<|W.ret rfl<|⟨_, Rslt.cell results129 rfl (res_at isAgg53 sizeOf53 2 hst rfl rfl), ?_⟩); exact ⟨rfl, (hst.dr 4)⟩
  · refine One.ww rfl (X.lits hst underlying24 sizeOf3 zeroValue3 (by rfl) (by rfl) (by rfl) [.int _ _, .int _ _] (by rfl) (by rfl) fun p15 w15 hst => ⟨(hst.cx 1), ?_⟩); refine Drw.ww rfl (X.lits hst underlying24 sizeOf3 zeroValue3 (by rfl) (by rfl) (by rfl) [.int _ _, .int _ _] (by rfl) (by rfl) fun p10 w10 hst => ⟨(hst.cx 2), ?_⟩); refine Drw.ww rfl (X.ret cf27 (adds_any [slo, lo] _ _ (by simp) _ _ _ _ _ hst (Rds.ofCells 0 rfl 2 2)) rfl fun w11 hst => ⟨(hst.cx 2), ?_⟩); refine Drw.ww rfl (X.ret cf27 (adds_any [shi, hi] _ _ (by simp) _ _ _ _ _ hst (Rds.ofCells 1 rfl 2 2)) rfl fun w16 hst => ⟨(hst.cx 2), ?_⟩); refine Drw.q rfl (hst.cx 2) (bd53_0_1 rfl)<|Drw.z rfl rfl rfl rfl (X.storeS hst 2 sizeOf53 rfl rfl rfl rfl rfl (lZ rfl) rfl rfl fun w1_11 hst => Drw.done<|W.ret rfl<|⟨_, Rslt.cell results129 rfl (res_at isAgg53 sizeOf53 2 hst rfl rfl), ?_⟩); exact ⟨rfl, (hst.dr 4)⟩
theorem mid_any (slo shi : Int) (w0 w : World) (F0 : List Nat) (L G : List Res) (hst : St w0 F0 w L G)  :
    Calls Tryz.prog 131 #[.agg #[.int .i64 slo, .int .i64 shi]] w fun e w' => e = .returned (.int .i64 (Sp.mid ⟨slo, shi⟩)) ∧ St w0 F0 w' L G := by
  refine W.func func131 rfl ntmps131 rfl<|W.sr rfl<|Ops.ww rfl (X.boxA hst rfl fun p1 w1 hst => hst.y rfl (Y.assignI rfl)<|Ops.done rfl<|W.seq rfl<|?_); have hc1 := clip_in slo; have hc2 := clip_in shi; refine hst.dv [] (T0 [0,1,3,4] (T1 [2,5] (T0 [6,7] .nil))) rfl (by kernel_rfl) rfl (by kernel_rfl) fun wd hst => ?_; refine hst.z rfl (Y.fieldAddr fa53_0 rfl)<|hst.z rfl (Y.load 0 isAgg3 rfl rfl rfl)<|hst.z rfl (Y.fieldAddr fa53_1 rfl)<|hst.z rfl (Y.load 0 isAgg3 rfl rfl rfl)<|Drw.ww rfl (X.ret cf38 (clip_any _ _ _ _ _ _ hst ) rfl fun w6 hst => ⟨hst.ctx, Drw.ww rfl (X.ret cf38 (clip_any _ _ _ _ _ _ hst ) rfl fun w9 hst => ⟨hst.ctx, hst.z rfl (Y.addI rfl rfl (by omega))<|hst.z rfl (Y.assignI rfl)<|Drw.done<|W.sr rfl<|hst.y rfl (Y.moveI rfl)<|hst.y rfl (Y.shr rfl rfl (by omega))<|hst.y rfl (Y.assignI rfl)<|Ops.done rfl<|W.ret rfl<|⟨_, Rslt.one results131 rfl, ?_⟩⟩)⟩); exact ⟨ret_int (by unfold Sp.mid; rw [Int.fdiv_eq_ediv_of_nonneg _ (by decide)]; rfl), (hst.dr 1)⟩
theorem lin_any (x : Int) (lo : Int) (hi : Int) (w0 w : World) (F0 : List Nat) (L G : List Res) (hst : St w0 F0 w L G)  :
    Calls Tryz.prog 51 #[.int .i64 x, .int .i64 lo, .int .i64 hi] w fun e w' => ∃ b, e = .returned (.bool b) ∧ b = decide (lo ≤ x ∧ x ≤ hi) ∧ St w0 F0 w' L G := by
  refine W.func func51 rfl ntmps51 rfl<|W.sr rfl<|hst.y rfl (Y.assignB rfl)<|Ops.ds rfl rfl<|hst.y rfl (Y.moveI rfl)<|hst.y rfl (Y.moveI rfl)<|hst.yb rfl (Y.leq rfl rfl) (fun b9 hb9 => hst.y rfl (Y.moveB rfl)<|?_); cases b9
  · replace hb9 := dF hb9; refine Ops.nn rfl<|Ops.nn rfl<|Ops.nn rfl<|hst.y rfl (Y.pB rfl rfl)<|hst.y rfl (Y.assignB rfl)<|Ops.done rfl<|W.ret rfl<|⟨_, Rslt.one results51 rfl, ?_⟩; exact ⟨_, rfl, by first | exact (decide_eq_true (by omega)).symm | exact (decide_eq_false (by omega)).symm, hst⟩
  · replace hb9 := dT hb9; refine hst.y rfl (Y.moveI rfl)<|hst.y rfl (Y.moveI rfl)<|hst.yb rfl (Y.leq rfl rfl) (fun b13 hb13 => hst.y rfl (Y.pB rfl rfl)<|hst.y rfl (Y.assignB rfl)<|Ops.done rfl<|W.ret rfl<|?_); cases b13
    · replace hb13 := dF hb13; refine ⟨_, Rslt.one results51 rfl, ?_⟩; exact ⟨_, rfl, by first | exact (decide_eq_true (by omega)).symm | exact (decide_eq_false (by omega)).symm, hst⟩
    · replace hb13 := dT hb13; refine ⟨_, Rslt.one results51 rfl, ?_⟩; exact ⟨_, rfl, by first | exact (decide_eq_true (by omega)).symm | exact (decide_eq_false (by omega)).symm, hst⟩
theorem hop_any (p : Par) (w0 w : World) (F0 : List Nat) (L G : List Res) (hst : St w0 F0 w L G)  :
    Calls Tryz.prog 69 #[.agg #[.int .i64 p.N, .int .i64 p.F, .int .i64 p.D, .int .i64 p.Beat, .int .i64 p.Rho, .int .i64 p.Delay, .int .i64 p.Jitter, .int .i64 p.Eps, .int .i64 p.Mu, .int .i64 p.Hold, .int .i64 p.Pulse, .int .i64 p.Second]] w fun e w' => e = .returned (.int .i64 (hop p)) ∧ St w0 F0 w' L G := by
  refine W.func func69 rfl ntmps69 rfl<|W.sr rfl<|Ops.ww rfl (X.boxA hst rfl fun p1 w1 hst => hst.y rfl (Y.assignI rfl)<|Ops.done rfl<|W.seq rfl<|W.drawn rfl (by kernel_rfl) (Ctx _ _ (_) (_)) [] (.op 0 0 (.op 1 0 (.op 2 0 (.op 3 0 (.op 4 1 (.op 5 1 (.op 6 1 (.op 7 0 .nil)))))))) rfl (by kernel_rfl) hst.drew.ctx<|?_); replace hst := hst.drew; generalize World.drew _ = wd at hst ⊢; refine hst.z rfl (Y.fieldAddr fa23_6 rfl)<|hst.z rfl (Y.load 0 isAgg3 rfl rfl rfl)<|hst.z rfl (Y.fieldAddr fa23_4 rfl)<|hst.z rfl (Y.load 0 isAgg3 rfl rfl rfl)<|Drw.ww rfl (X.ret cf45 (mul_any _ _ _ _ _ _ _ hst ) rfl fun w7 hst => ⟨hst.ctx, Drw.ww rfl (X.lits hst underlying24 sizeOf3 zeroValue3 (by rfl) (by rfl) (by rfl) [.int _ _, .int _ _] (by rfl) (by rfl) fun p8 w8 hst => ⟨(hst.cx 1), ?_⟩)⟩); refine Drw.ww rfl (X.ret cf27 (adds_any [p.Jitter, mul 2 p.Rho] _ _ (by simp) _ _ _ _ _ hst (Rds.ofCells 0 rfl 2 2)) rfl fun w9 hst => ⟨(hst.cx 1), ?_⟩); refine Drw.q rfl (hst.cx 1) (Y.assignI rfl)<|Drw.done<|W.ret rfl<|⟨_, Rslt.one results69 rfl, ?_⟩; exact ⟨rfl, (hst.dr 2)⟩
theorem gateW_any (p : Par) (w0 w : World) (F0 : List Nat) (L G : List Res) (hst : St w0 F0 w L G)  :
    Calls Tryz.prog 68 #[.agg #[.int .i64 p.N, .int .i64 p.F, .int .i64 p.D, .int .i64 p.Beat, .int .i64 p.Rho, .int .i64 p.Delay, .int .i64 p.Jitter, .int .i64 p.Eps, .int .i64 p.Mu, .int .i64 p.Hold, .int .i64 p.Pulse, .int .i64 p.Second]] w fun e w' => e = .returned (.int .i64 (gateW p)) ∧ St w0 F0 w' L G := by
  refine W.func func68 rfl ntmps68 rfl<|W.sr rfl<|Ops.ww rfl (X.boxA hst rfl fun p1 w1 hst => hst.y rfl (Y.assignI rfl)<|Ops.done rfl<|W.seq rfl<|W.drawn rfl (by kernel_rfl) (Ctx _ _ (_) (_)) [] (.op 0 0 (.op 1 0 (.op 3 0 (.op 2 1 (.op 4 1 (.op 5 1 (.op 6 1 (.op 7 1 (.op 8 0 .nil))))))))) rfl (by kernel_rfl) hst.drew.ctx<|?_); replace hst := hst.drew; generalize World.drew _ = wd at hst ⊢; refine hst.z rfl (Y.fieldAddr fa23_7 rfl)<|hst.z rfl (Y.load 0 isAgg3 rfl rfl rfl)<|hst.z rfl (Y.loadA 0 isAgg23 sizeOf23 rfl rfl rfl rfl)<|Drw.ww rfl (X.ret cf45 (mul_any _ _ _ _ _ _ _ hst ) rfl fun w5 hst => ⟨hst.ctx, Drw.ww rfl (X.ret cf69 (hop_any p _ _ _ _ _ hst ) rfl fun w7 hst => ⟨hst.ctx, Drw.ww rfl (X.lits hst underlying24 sizeOf3 zeroValue3 (by rfl) (by rfl) (by rfl) [.int _ _, .int _ _] (by rfl) (by rfl) fun p8 w8 hst => ⟨(hst.cx 1), ?_⟩)⟩)⟩); refine Drw.ww rfl (X.ret cf27 (adds_any [mul 2 p.Eps, hop p] _ _ (by simp) _ _ _ _ _ hst (Rds.ofCells 0 rfl 2 2)) rfl fun w9 hst => ⟨(hst.cx 1), ?_⟩); refine Drw.ww rfl (X.ret cf45 (mul_any _ _ _ _ _ _ _ hst ) rfl fun w10 hst => ⟨(hst.cx 1), Drw.q rfl (hst.cx 1) (Y.assignI rfl)<|Drw.done<|W.ret rfl<|⟨_, Rslt.one results68 rfl, ?_⟩⟩); exact ⟨rfl, (hst.dr 2)⟩
theorem width_any (p : Par) (held : Int) (hops : Int) (w0 w : World) (F0 : List Nat) (L G : List Res) (hst : St w0 F0 w L G)  :
    Calls Tryz.prog 46 #[.agg #[.int .i64 p.N, .int .i64 p.F, .int .i64 p.D, .int .i64 p.Beat, .int .i64 p.Rho, .int .i64 p.Delay, .int .i64 p.Jitter, .int .i64 p.Eps, .int .i64 p.Mu, .int .i64 p.Hold, .int .i64 p.Pulse, .int .i64 p.Second], .int .i64 held, .int .i64 hops] w fun e w' => e = .returned (.int .i64 (width p held hops)) ∧ St w0 F0 w' L G := by
  refine W.func func46 rfl ntmps46 rfl<|W.sr rfl<|Ops.ww rfl (X.boxA hst rfl fun p3 w3 hst => hst.y rfl (Y.assignI rfl)<|Ops.done rfl<|W.seq rfl<|W.drawn rfl (by kernel_rfl) (Ctx _ _ (_) (_)) [] (.op 0 0 (.op 2 0 (.op 3 0 (.op 5 0 (.op 7 0 (.op 10 0 (.alt 1 (.alt 4 (.alt 6 (.op 8 1 (.op 9 1 (.op 11 1 (.op 12 1 (.op 13 1 (.op 14 1 (.op 15 0 .nil))))))) (.op 8 1 (.op 6 1 (.op 9 1 (.op 11 1 (.op 12 1 (.op 13 1 (.op 14 1 (.op 15 0 .nil))))))))) (.op 8 1 (.op 4 1 (.op 6 1 (.op 9 1 (.op 11 1 (.op 12 1 (.op 13 1 (.op 14 1 (.op 15 0 .nil)))))))))) (.op 8 1 (.op 1 1 (.op 4 1 (.op 6 1 (.op 9 1 (.op 11 1 (.op 12 1 (.op 13 1 (.op 14 1 (.op 15 0 .nil))))))))))))))))) rfl (by kernel_rfl) hst.drew.ctx<|?_); replace hst := hst.drew; generalize World.drew _ = wd at hst ⊢; refine hst.z rfl (Y.loadA 0 isAgg23 sizeOf23 rfl rfl rfl rfl)<|hst.z rfl (Y.fieldAddr fa23_4 rfl)<|hst.z rfl (Y.load 0 isAgg3 rfl rfl rfl)<|hst.z rfl (Y.moveI rfl)<|hst.z rfl (Y.moveI rfl)<|hst.z rfl (Y.loadA 0 isAgg23 sizeOf23 rfl rfl rfl rfl)<|?_; refine Drw.alts (Alts.more ?_ (Alts.one ?_))
  · refine One.ww rfl (X.ret cf68 (gateW_any p _ _ _ _ _ hst ) rfl fun w8 hst => ⟨hst.ctx, ?_⟩); refine Drw.alts (Alts.more ?_ (Alts.one ?_))
    · refine One.ww rfl (X.ret cf45 (mul_any _ _ _ _ _ _ _ hst ) rfl fun w11 hst => ⟨hst.ctx, ?_⟩); refine Drw.alts (Alts.more ?_ (Alts.one ?_))
      · refine One.ww rfl (X.ret cf45 (mul_any _ _ _ _ _ _ _ hst ) rfl fun w13 hst => ⟨hst.ctx, Drw.ww rfl (X.lits hst underlying24 sizeOf3 zeroValue3 (by rfl) (by rfl) (by rfl) [.int _ _, .int _ _] (by rfl) (by rfl) fun p15 w15 hst => ⟨(hst.cx 1), ?_⟩)⟩); refine Drw.ww rfl (X.ret cf27 (adds_any [hops, 1] _ _ (by simp) _ _ _ _ _ hst (Rds.ofCells 0 rfl 2 2)) rfl fun w16 hst => ⟨(hst.cx 1), ?_⟩); refine Drw.ww rfl (X.ret cf69 (hop_any p _ _ _ _ _ hst ) rfl fun w18 hst => ⟨(hst.cx 1), Drw.ww rfl (X.ret cf45 (mul_any _ _ _ _ _ _ _ hst ) rfl fun w19 hst => ⟨(hst.cx 1), Drw.ww rfl (X.lits hst underlying24 sizeOf3 zeroValue3 (by rfl) (by rfl) (by rfl) [.int _ _, .int _ _, .int _ _] (by rfl) (by rfl) fun p20 w20 hst => ⟨(hst.cx 2), ?_⟩)⟩)⟩); refine Drw.ww rfl (X.ret cf27 (adds_any [gateW p, mul (mul 2 p.Rho) held, mul (adds [hops, 1]) (hop p)] _ _ (by simp) _ _ _ _ _ hst (Rds.ofCells 0 rfl 3 3)) rfl fun w21 hst => ⟨(hst.cx 2), ?_⟩); refine Drw.q rfl (hst.cx 2) (Y.assignI rfl)<|Drw.done<|W.ret rfl<|⟨_, Rslt.one results46 rfl, ?_⟩; exact ⟨rfl, (hst.dr 3)⟩
      · refine One.ww rfl (X.lits hst underlying24 sizeOf3 zeroValue3 (by rfl) (by rfl) (by rfl) [.int _ _, .int _ _] (by rfl) (by rfl) fun p15 w15 hst => ⟨(hst.cx 1), ?_⟩); refine Drw.ww rfl (X.ret cf45 (mul_any _ _ _ _ _ _ _ hst ) rfl fun w13 hst => ⟨(hst.cx 1), Drw.ww rfl (X.ret cf27 (adds_any [hops, 1] _ _ (by simp) _ _ _ _ _ hst (Rds.ofCells 0 rfl 2 2)) rfl fun w16 hst => ⟨(hst.cx 1), ?_⟩)⟩); refine Drw.ww rfl (X.ret cf69 (hop_any p _ _ _ _ _ hst ) rfl fun w18 hst => ⟨(hst.cx 1), Drw.ww rfl (X.ret cf45 (mul_any _ _ _ _ _ _ _ hst ) rfl fun w19 hst => ⟨(hst.cx 1), Drw.ww rfl (X.lits hst underlying24 sizeOf3 zeroValue3 (by rfl) (by rfl) (by rfl) [.int _ _, .int _ _, .int _ _] (by rfl) (by rfl) fun p20 w20 hst => ⟨(hst.cx 2), ?_⟩)⟩)⟩); refine Drw.ww rfl (X.ret cf27 (adds_any [gateW p, mul (mul 2 p.Rho) held, mul (adds [hops, 1]) (hop p)] _ _ (by simp) _ _ _ _ _ hst (Rds.ofCells 0 rfl 3 3)) rfl fun w21 hst => ⟨(hst.cx 2), ?_⟩); refine Drw.q rfl (hst.cx 2) (Y.assignI rfl)<|Drw.done<|W.ret rfl<|⟨_, Rslt.one results46 rfl, ?_⟩; exact ⟨rfl, (hst.dr 3)⟩
    · refine One.ww rfl (X.lits hst underlying24 sizeOf3 zeroValue3 (by rfl) (by rfl) (by rfl) [.int _ _, .int _ _] (by rfl) (by rfl) fun p15 w15 hst => ⟨(hst.cx 1), ?_⟩); refine Drw.ww rfl (X.ret cf45 (mul_any _ _ _ _ _ _ _ hst ) rfl fun w11 hst => ⟨(hst.cx 1), Drw.ww rfl (X.ret cf45 (mul_any _ _ _ _ _ _ _ hst ) rfl fun w13 hst => ⟨(hst.cx 1), Drw.ww rfl (X.ret cf27 (adds_any [hops, 1] _ _ (by simp) _ _ _ _ _ hst (Rds.ofCells 0 rfl 2 2)) rfl fun w16 hst => ⟨(hst.cx 1), ?_⟩)⟩)⟩); refine Drw.ww rfl (X.ret cf69 (hop_any p _ _ _ _ _ hst ) rfl fun w18 hst => ⟨(hst.cx 1), Drw.ww rfl (X.ret cf45 (mul_any _ _ _ _ _ _ _ hst ) rfl fun w19 hst => ⟨(hst.cx 1), Drw.ww rfl (X.lits hst underlying24 sizeOf3 zeroValue3 (by rfl) (by rfl) (by rfl) [.int _ _, .int _ _, .int _ _] (by rfl) (by rfl) fun p20 w20 hst => ⟨(hst.cx 2), ?_⟩)⟩)⟩); refine Drw.ww rfl (X.ret cf27 (adds_any [gateW p, mul (mul 2 p.Rho) held, mul (adds [hops, 1]) (hop p)] _ _ (by simp) _ _ _ _ _ hst (Rds.ofCells 0 rfl 3 3)) rfl fun w21 hst => ⟨(hst.cx 2), ?_⟩); refine Drw.q rfl (hst.cx 2) (Y.assignI rfl)<|Drw.done<|W.ret rfl<|⟨_, Rslt.one results46 rfl, ?_⟩; exact ⟨rfl, (hst.dr 3)⟩
  · refine One.ww rfl (X.lits hst underlying24 sizeOf3 zeroValue3 (by rfl) (by rfl) (by rfl) [.int _ _, .int _ _] (by rfl) (by rfl) fun p15 w15 hst => ⟨(hst.cx 1), ?_⟩); refine Drw.ww rfl (X.ret cf68 (gateW_any p _ _ _ _ _ hst ) rfl fun w8 hst => ⟨(hst.cx 1), Drw.ww rfl (X.ret cf45 (mul_any _ _ _ _ _ _ _ hst ) rfl fun w11 hst => ⟨(hst.cx 1), Drw.ww rfl (X.ret cf45 (mul_any _ _ _ _ _ _ _ hst ) rfl fun w13 hst => ⟨(hst.cx 1), Drw.ww rfl (X.ret cf27 (adds_any [hops, 1] _ _ (by simp) _ _ _ _ _ hst (Rds.ofCells 0 rfl 2 2)) rfl fun w16 hst => ⟨(hst.cx 1), ?_⟩)⟩)⟩)⟩); refine Drw.ww rfl (X.ret cf69 (hop_any p _ _ _ _ _ hst ) rfl fun w18 hst => ⟨(hst.cx 1), Drw.ww rfl (X.ret cf45 (mul_any _ _ _ _ _ _ _ hst ) rfl fun w19 hst => ⟨(hst.cx 1), Drw.ww rfl (X.lits hst underlying24 sizeOf3 zeroValue3 (by rfl) (by rfl) (by rfl) [.int _ _, .int _ _, .int _ _] (by rfl) (by rfl) fun p20 w20 hst => ⟨(hst.cx 2), ?_⟩)⟩)⟩); refine Drw.ww rfl (X.ret cf27 (adds_any [gateW p, mul (mul 2 p.Rho) held, mul (adds [hops, 1]) (hop p)] _ _ (by simp) _ _ _ _ _ hst (Rds.ofCells 0 rfl 3 3)) rfl fun w21 hst => ⟨(hst.cx 2), ?_⟩); refine Drw.q rfl (hst.cx 2) (Y.assignI rfl)<|Drw.done<|W.ret rfl<|⟨_, Rslt.one results46 rfl, ?_⟩; exact ⟨rfl, (hst.dr 3)⟩
theorem hold_any (p : Par) (slo shi : Int) (ticks : Int) (w0 w : World) (F0 : List Nat) (L G : List Res) (hst : St w0 F0 w L G)  :
    Calls Tryz.prog 120 #[.agg #[.int .i64 p.N, .int .i64 p.F, .int .i64 p.D, .int .i64 p.Beat, .int .i64 p.Rho, .int .i64 p.Delay, .int .i64 p.Jitter, .int .i64 p.Eps, .int .i64 p.Mu, .int .i64 p.Hold, .int .i64 p.Pulse, .int .i64 p.Second], .agg #[.int .i64 slo, .int .i64 shi], .int .i64 ticks] w fun e w' => e = .returned (.agg #[.int .i64 (hold p ⟨slo, shi⟩ ticks).lo, .int .i64 (hold p ⟨slo, shi⟩ ticks).hi]) ∧ St w0 F0 w' L G := by
  refine W.func func120 rfl ntmps120 rfl<|W.sr rfl<|Ops.ww rfl (X.boxA hst rfl fun p3 w3 hst => Ops.ww rfl (X.boxA hst rfl fun p4 w4 hst => Ops.ww rfl (X.allocA hst zeroValue53 fun p6 w6 hst => Ops.done rfl<|W.seq rfl<|W.drawn rfl (by kernel_rfl) (Ctx _ _ (_) (_)) [11] (.op 0 0 (.op 1 0 (.op 2 0 (.op 3 0 (.op 5 0 (.op 6 0 (.op 7 0 (.alt 4 (.op 8 1 (.op 9 1 (.op 10 1 (.op 11 1 .nil)))) (.op 8 1 (.op 4 1 (.op 9 1 (.op 10 1 (.op 11 1 .nil))))))))))))) rfl (by kernel_rfl) hst.drew.ctx<|?_))); replace hst := hst.drew; generalize World.drew _ = wd at hst ⊢; refine hst.z rfl (Y.loadA 1 isAgg53 sizeOf53 rfl rfl rfl rfl)<|hst.z rfl (Y.moveI rfl)<|hst.z rfl (Y.fieldAddr fa23_4 rfl)<|hst.z rfl (Y.load 2 isAgg3 rfl rfl rfl)<|hst.z rfl (Y.moveI rfl)<|hst.z rfl (Y.fieldAddr fa23_4 rfl)<|hst.z rfl (Y.load 2 isAgg3 rfl rfl rfl)<|?_; refine Drw.alts (Alts.more ?_ (Alts.one ?_))
  · refine One.ww rfl (X.ret cf53 (sub_any _ _ _ _ _ _ _ hst ) rfl fun w11 hst => ⟨hst.ctx, Drw.ww rfl (X.lits hst underlying24 sizeOf3 zeroValue3 (by rfl) (by rfl) (by rfl) [.int _ _, .int _ _] (by rfl) (by rfl) fun p15 w15 hst => ⟨(hst.cx 1), ?_⟩)⟩); refine Drw.ww rfl (X.ret cf27 (adds_any [ticks, p.Rho] _ _ (by simp) _ _ _ _ _ hst (Rds.ofCells 0 rfl 2 2)) rfl fun w16 hst => ⟨(hst.cx 1), ?_⟩); refine Drw.ww rfl (X.ret cf129 (shift_any _ _ _ _ _ _ _ _ _ hst ) rfl fun w17 hst => ⟨(hst.cx 1), Drw.z rfl rfl rfl rfl (X.storeS hst 1 sizeOf53 rfl rfl rfl rfl rfl (lZ rfl) rfl rfl fun w1_11 hst => Drw.done<|W.ret rfl<|⟨_, Rslt.cell results120 rfl (res_at isAgg53 sizeOf53 1 hst rfl rfl), ?_⟩)⟩); exact ⟨rfl, (hst.dr 4)⟩
  · refine One.ww rfl (X.lits hst underlying24 sizeOf3 zeroValue3 (by rfl) (by rfl) (by rfl) [.int _ _, .int _ _] (by rfl) (by rfl) fun p15 w15 hst => ⟨(hst.cx 1), ?_⟩); refine Drw.ww rfl (X.ret cf53 (sub_any _ _ _ _ _ _ _ hst ) rfl fun w11 hst => ⟨(hst.cx 1), Drw.ww rfl (X.ret cf27 (adds_any [ticks, p.Rho] _ _ (by simp) _ _ _ _ _ hst (Rds.ofCells 0 rfl 2 2)) rfl fun w16 hst => ⟨(hst.cx 1), ?_⟩)⟩); refine Drw.ww rfl (X.ret cf129 (shift_any _ _ _ _ _ _ _ _ _ hst ) rfl fun w17 hst => ⟨(hst.cx 1), Drw.z rfl rfl rfl rfl (X.storeS hst 1 sizeOf53 rfl rfl rfl rfl rfl (lZ rfl) rfl rfl fun w1_11 hst => Drw.done<|W.ret rfl<|⟨_, Rslt.cell results120 rfl (res_at isAgg53 sizeOf53 1 hst rfl rfl), ?_⟩)⟩); exact ⟨rfl, (hst.dr 4)⟩
theorem way_any (p : Par) (slo shi : Int) (age : Int) (w0 w : World) (F0 : List Nat) (L G : List Res) (hst : St w0 F0 w L G)  :
    Calls Tryz.prog 119 #[.agg #[.int .i64 p.N, .int .i64 p.F, .int .i64 p.D, .int .i64 p.Beat, .int .i64 p.Rho, .int .i64 p.Delay, .int .i64 p.Jitter, .int .i64 p.Eps, .int .i64 p.Mu, .int .i64 p.Hold, .int .i64 p.Pulse, .int .i64 p.Second], .agg #[.int .i64 slo, .int .i64 shi], .int .i64 age] w fun e w' => e = .returned (.agg #[.int .i64 (way p ⟨slo, shi⟩ age).lo, .int .i64 (way p ⟨slo, shi⟩ age).hi]) ∧ St w0 F0 w' L G := by
  refine W.func func119 rfl ntmps119 rfl<|W.sr rfl<|Ops.ww rfl (X.boxA hst rfl fun p3 w3 hst => Ops.ww rfl (X.boxA hst rfl fun p4 w4 hst => Ops.ww rfl (X.allocA hst zeroValue53 fun p6 w6 hst => Ops.done rfl<|W.seq rfl<|W.drawn rfl (by kernel_rfl) (Ctx _ _ (_) (_)) [20] (.op 0 0 (.op 1 0 (.op 2 0 (.op 3 0 (.op 4 0 (.op 6 0 (.op 7 0 (.op 8 0 (.op 12 0 (.op 13 0 (.op 14 0 (.op 15 0 (.op 16 0 (.alt 5 (.alt 9 (.alt 10 (.alt 11 (.op 17 1 (.op 18 1 (.op 19 1 (.op 20 1 .nil)))) (.op 17 1 (.op 11 1 (.op 18 1 (.op 19 1 (.op 20 1 .nil)))))) (.op 17 1 (.op 10 1 (.op 11 1 (.op 18 1 (.op 19 1 (.op 20 1 .nil))))))) (.op 17 1 (.op 9 1 (.op 10 1 (.op 11 1 (.op 18 1 (.op 19 1 (.op 20 1 .nil)))))))) (.op 17 1 (.op 5 1 (.op 9 1 (.op 10 1 (.op 11 1 (.op 18 1 (.op 19 1 (.op 20 1 .nil)))))))))))))))))))))) rfl (by kernel_rfl) hst.drew.ctx<|?_))); replace hst := hst.drew; generalize World.drew _ = wd at hst ⊢; refine hst.z rfl (Y.loadA 1 isAgg53 sizeOf53 rfl rfl rfl rfl)<|hst.z rfl (Y.fieldAddr fa23_5 rfl)<|hst.z rfl (Y.load 2 isAgg3 rfl rfl rfl)<|hst.z rfl (Y.fieldAddr fa23_6 rfl)<|hst.z rfl (Y.load 2 isAgg3 rfl rfl rfl)<|hst.z rfl (Y.moveI rfl)<|hst.z rfl (Y.fieldAddr fa23_4 rfl)<|hst.z rfl (Y.load 2 isAgg3 rfl rfl rfl)<|hst.z rfl (Y.fieldAddr fa23_5 rfl)<|hst.z rfl (Y.load 2 isAgg3 rfl rfl rfl)<|hst.z rfl (Y.moveI rfl)<|hst.z rfl (Y.fieldAddr fa23_4 rfl)<|hst.z rfl (Y.load 2 isAgg3 rfl rfl rfl)<|?_; refine Drw.alts (Alts.more ?_ (Alts.one ?_))
  · refine One.ww rfl (X.ret cf53 (sub_any _ _ _ _ _ _ _ hst ) rfl fun w12 hst => ⟨hst.ctx, ?_⟩); refine Drw.alts (Alts.more ?_ (Alts.one ?_))
    · refine One.ww rfl (X.ret cf75 (neg_any _ _ _ _ _ _ hst ) rfl fun w16 hst => ⟨hst.ctx, ?_⟩); refine Drw.alts (Alts.more ?_ (Alts.one ?_))
      · refine One.ww rfl (X.lits hst underlying24 sizeOf3 zeroValue3 (by rfl) (by rfl) (by rfl) [.int _ _, .int _ _, .int _ _] (by rfl) (by rfl) fun p17 w17 hst => ⟨(hst.cx 1), ?_⟩); refine Drw.alts (Alts.more ?_ (Alts.one ?_))
        · refine One.ww rfl (X.ret cf27 (adds_any [sub p.Delay p.Jitter, age, neg p.Rho] _ _ (by simp) _ _ _ _ _ hst (Rds.ofCells 0 rfl 3 3)) rfl fun w18 hst => ⟨(hst.cx 1), ?_⟩); refine Drw.ww rfl (X.lits hst underlying24 sizeOf3 zeroValue3 (by rfl) (by rfl) (by rfl) [.int _ _, .int _ _, .int _ _] (by rfl) (by rfl) fun p24 w24 hst => ⟨(hst.cx 2), ?_⟩); refine Drw.ww rfl (X.ret cf27 (adds_any [p.Delay, age, p.Rho] _ _ (by simp) _ _ _ _ _ hst (Rds.ofCells 0 rfl 3 3)) rfl fun w25 hst => ⟨(hst.cx 2), ?_⟩); refine Drw.ww rfl (X.ret cf129 (shift_any _ _ _ _ _ _ _ _ _ hst ) rfl fun w26 hst => ⟨(hst.cx 2), Drw.z rfl rfl rfl rfl (X.storeS hst 2 sizeOf53 rfl rfl rfl rfl rfl (lZ rfl) rfl rfl fun w1_20 hst => Drw.done<|W.ret rfl<|⟨_, Rslt.cell results119 rfl (res_at isAgg53 sizeOf53 2 hst rfl rfl), ?_⟩)⟩); exact ⟨rfl, (hst.dr 5)⟩
        · refine One.ww rfl (X.lits hst underlying24 sizeOf3 zeroValue3 (by rfl) (by rfl) (by rfl) [.int _ _, .int _ _, .int _ _] (by rfl) (by rfl) fun p24 w24 hst => ⟨(hst.cx 2), ?_⟩); refine Drw.ww rfl (X.ret cf27 (adds_any [sub p.Delay p.Jitter, age, neg p.Rho] _ _ (by simp) _ _ _ _ _ hst (Rds.ofCells 1 rfl 3 3)) rfl fun w18 hst => ⟨(hst.cx 2), ?_⟩); refine Drw.ww rfl (X.ret cf27 (adds_any [p.Delay, age, p.Rho] _ _ (by simp) _ _ _ _ _ hst (Rds.ofCells 0 rfl 3 3)) rfl fun w25 hst => ⟨(hst.cx 2), ?_⟩); refine Drw.ww rfl (X.ret cf129 (shift_any _ _ _ _ _ _ _ _ _ hst ) rfl fun w26 hst => ⟨(hst.cx 2), Drw.z rfl rfl rfl rfl (X.storeS hst 2 sizeOf53 rfl rfl rfl rfl rfl (lZ rfl) rfl rfl fun w1_20 hst => Drw.done<|W.ret rfl<|⟨_, Rslt.cell results119 rfl (res_at isAgg53 sizeOf53 2 hst rfl rfl), ?_⟩)⟩); exact ⟨rfl, (hst.dr 5)⟩
      · refine One.ww rfl (X.lits hst underlying24 sizeOf3 zeroValue3 (by rfl) (by rfl) (by rfl) [.int _ _, .int _ _, .int _ _] (by rfl) (by rfl) fun p24 w24 hst => ⟨(hst.cx 1), ?_⟩); refine Drw.ww rfl (X.lits hst underlying24 sizeOf3 zeroValue3 (by rfl) (by rfl) (by rfl) [.int _ _, .int _ _, .int _ _] (by rfl) (by rfl) fun p17 w17 hst => ⟨(hst.cx 2), ?_⟩); refine Drw.ww rfl (X.ret cf27 (adds_any [sub p.Delay p.Jitter, age, neg p.Rho] _ _ (by simp) _ _ _ _ _ hst (Rds.ofCells 0 rfl 3 3)) rfl fun w18 hst => ⟨(hst.cx 2), ?_⟩); refine Drw.ww rfl (X.ret cf27 (adds_any [p.Delay, age, p.Rho] _ _ (by simp) _ _ _ _ _ hst (Rds.ofCells 1 rfl 3 3)) rfl fun w25 hst => ⟨(hst.cx 2), ?_⟩); refine Drw.ww rfl (X.ret cf129 (shift_any _ _ _ _ _ _ _ _ _ hst ) rfl fun w26 hst => ⟨(hst.cx 2), Drw.z rfl rfl rfl rfl (X.storeS hst 2 sizeOf53 rfl rfl rfl rfl rfl (lZ rfl) rfl rfl fun w1_20 hst => Drw.done<|W.ret rfl<|⟨_, Rslt.cell results119 rfl (res_at isAgg53 sizeOf53 2 hst rfl rfl), ?_⟩)⟩); exact ⟨rfl, (hst.dr 5)⟩
    · refine One.ww rfl (X.lits hst underlying24 sizeOf3 zeroValue3 (by rfl) (by rfl) (by rfl) [.int _ _, .int _ _, .int _ _] (by rfl) (by rfl) fun p24 w24 hst => ⟨(hst.cx 1), ?_⟩); refine Drw.ww rfl (X.ret cf75 (neg_any _ _ _ _ _ _ hst ) rfl fun w16 hst => ⟨(hst.cx 1), Drw.ww rfl (X.lits hst underlying24 sizeOf3 zeroValue3 (by rfl) (by rfl) (by rfl) [.int _ _, .int _ _, .int _ _] (by rfl) (by rfl) fun p17 w17 hst => ⟨(hst.cx 2), ?_⟩)⟩); refine Drw.ww rfl (X.ret cf27 (adds_any [sub p.Delay p.Jitter, age, neg p.Rho] _ _ (by simp) _ _ _ _ _ hst (Rds.ofCells 0 rfl 3 3)) rfl fun w18 hst => ⟨(hst.cx 2), ?_⟩); refine Drw.ww rfl (X.ret cf27 (adds_any [p.Delay, age, p.Rho] _ _ (by simp) _ _ _ _ _ hst (Rds.ofCells 1 rfl 3 3)) rfl fun w25 hst => ⟨(hst.cx 2), ?_⟩); refine Drw.ww rfl (X.ret cf129 (shift_any _ _ _ _ _ _ _ _ _ hst ) rfl fun w26 hst => ⟨(hst.cx 2), Drw.z rfl rfl rfl rfl (X.storeS hst 2 sizeOf53 rfl rfl rfl rfl rfl (lZ rfl) rfl rfl fun w1_20 hst => Drw.done<|W.ret rfl<|⟨_, Rslt.cell results119 rfl (res_at isAgg53 sizeOf53 2 hst rfl rfl), ?_⟩)⟩); exact ⟨rfl, (hst.dr 5)⟩
  · refine One.ww rfl (X.lits hst underlying24 sizeOf3 zeroValue3 (by rfl) (by rfl) (by rfl) [.int _ _, .int _ _, .int _ _] (by rfl) (by rfl) fun p24 w24 hst => ⟨(hst.cx 1), ?_⟩); refine Drw.ww rfl (X.ret cf53 (sub_any _ _ _ _ _ _ _ hst ) rfl fun w12 hst => ⟨(hst.cx 1), Drw.ww rfl (X.ret cf75 (neg_any _ _ _ _ _ _ hst ) rfl fun w16 hst => ⟨(hst.cx 1), Drw.ww rfl (X.lits hst underlying24 sizeOf3 zeroValue3 (by rfl) (by rfl) (by rfl) [.int _ _, .int _ _, .int _ _] (by rfl) (by rfl) fun p17 w17 hst => ⟨(hst.cx 2), ?_⟩)⟩)⟩); refine Drw.ww rfl (X.ret cf27 (adds_any [sub p.Delay p.Jitter, age, neg p.Rho] _ _ (by simp) _ _ _ _ _ hst (Rds.ofCells 0 rfl 3 3)) rfl fun w18 hst => ⟨(hst.cx 2), ?_⟩); refine Drw.ww rfl (X.ret cf27 (adds_any [p.Delay, age, p.Rho] _ _ (by simp) _ _ _ _ _ hst (Rds.ofCells 1 rfl 3 3)) rfl fun w25 hst => ⟨(hst.cx 2), ?_⟩); refine Drw.ww rfl (X.ret cf129 (shift_any _ _ _ _ _ _ _ _ _ hst ) rfl fun w26 hst => ⟨(hst.cx 2), Drw.z rfl rfl rfl rfl (X.storeS hst 2 sizeOf53 rfl rfl rfl rfl rfl (lZ rfl) rfl rfl fun w1_20 hst => Drw.done<|W.ret rfl<|⟨_, Rslt.cell results119 rfl (res_at isAgg53 sizeOf53 2 hst rfl rfl), ?_⟩)⟩); exact ⟨rfl, (hst.dr 5)⟩
theorem more_any (held : Int) (w0 w : World) (F0 : List Nat) (L G : List Res) (hst : St w0 F0 w L G)  :
    Calls Tryz.prog 121 #[.int .i64 held] w fun e w' => e = .returned (.int .i64 (moreHeld held)) ∧ St w0 F0 w' L G := by
  refine W.func func121 rfl ntmps121 rfl<|W.sr rfl<|hst.y rfl (Y.assignI rfl)<|Ops.ds rfl rfl<|hst.y rfl (Y.moveI rfl)<|Ops.ww rfl (X.lits hst underlying24 sizeOf3 zeroValue3 (by rfl) (by rfl) (by rfl) [.int _ _, .int _ _] (by rfl) (by rfl) fun p4 w4 hst => ?_); refine Ops.ww rfl (X.ret cf27 (adds_any [held, 1] _ _ (by simp) _ _ _ _ _ hst (Rds.ofCells 0 rfl 2 2)) rfl fun w5 hst => ?_); refine Ops.ww rfl (X.ret cf39 (bound_any _ _ _ _ _ _ _ _ hst ) rfl fun w6 hst => hst.y rfl (Y.assignI rfl)<|Ops.done rfl<|W.ret rfl<|⟨_, Rslt.one results121 rfl, ?_⟩); exact ⟨rfl, (hst.dr 1)⟩
theorem seen_any (p : Par) (reading : Int) (w0 w : World) (F0 : List Nat) (L G : List Res) (hst : St w0 F0 w L G)  :
    Calls Tryz.prog 117 #[.agg #[.int .i64 p.N, .int .i64 p.F, .int .i64 p.D, .int .i64 p.Beat, .int .i64 p.Rho, .int .i64 p.Delay, .int .i64 p.Jitter, .int .i64 p.Eps, .int .i64 p.Mu, .int .i64 p.Hold, .int .i64 p.Pulse, .int .i64 p.Second], .int .i64 reading] w fun e w' => ∃ b, e = .returned (.tuple #[.agg #[.int .i64 (seen p reading).lo, .int .i64 (seen p reading).hi], .bool b]) ∧ b = decide (seenOk p reading) ∧ St w0 F0 w' L G := by
  refine W.func func117 rfl ntmps117 rfl<|W.sr rfl<|Ops.ww rfl (X.boxA hst rfl fun p2 w2 hst => Ops.ww rfl (X.allocA hst zeroValue53 fun p4 w4 hst => hst.y rfl (Y.assignB rfl)<|Ops.done rfl<|W.seq rfl<|W.sr rfl<|hst.y rfl (Y.moveI rfl)<|hst.yb rfl (Y.gtr rfl rfl) (fun b7 hb7 => hst.y rfl (Y.moveB rfl)<|?_))); cases b7
  · replace hb7 := dF hb7; refine hst.y rfl (Y.moveI rfl)<|hst.yb rfl (Y.lss rfl rfl) (fun b10 hb10 => hst.y rfl (Y.pB rfl rfl)<|hst.y rfl (Y.moveB rfl)<|?_); cases b10
    · replace hb10 := dF hb10; refine hst.y rfl (Y.fieldAddr fa23_7 rfl)<|hst.y rfl (Y.load 1 isAgg3 rfl rfl rfl)<|hst.yb rfl (Y.lss rfl rfl) (fun b15 hb15 => hst.y rfl (Y.pB rfl rfl)<|Ops.done rfl<|?_); cases b15
      · replace hb15 := dF hb15; refine W.condF rfl rfl<|W.skip rfl<|W.seq rfl<|W.drawn rfl (by kernel_rfl) (Ctx _ _ (_) (_)) [10, 11] (.op 0 0 (.op 1 0 (.op 2 0 (.op 4 0 (.op 5 0 (.op 6 0 (.alt 3 (.op 7 1 (.op 8 1 (.op 9 0 (.op 10 1 (.op 11 1 .nil))))) (.op 7 1 (.op 3 1 (.op 8 1 (.op 9 0 (.op 10 1 (.op 11 1 .nil))))))))))))) rfl (by kernel_rfl) hst.drew.ctx<|?_; replace hst := hst.drew; generalize World.drew _ = wd at hst ⊢; refine hst.z rfl (Y.moveI rfl)<|hst.z rfl (Y.fieldAddr fa23_7 rfl)<|hst.z rfl (Y.load 1 isAgg3 rfl rfl rfl)<|hst.z rfl (Y.moveI rfl)<|hst.z rfl (Y.fieldAddr fa23_7 rfl)<|hst.z rfl (Y.load 1 isAgg3 rfl rfl rfl)<|?_; refine Drw.alts (Alts.more ?_ (Alts.one ?_))
        · refine One.ww rfl (X.ret cf53 (sub_any _ _ _ _ _ _ _ hst ) rfl fun w21 hst => ⟨hst.ctx, Drw.ww rfl (X.lits hst underlying24 sizeOf3 zeroValue3 (by rfl) (by rfl) (by rfl) [.int _ _, .int _ _] (by rfl) (by rfl) fun p25 w25 hst => ⟨(hst.cx 1), ?_⟩)⟩); refine Drw.ww rfl (X.ret cf27 (adds_any [reading, p.Eps] _ _ (by simp) _ _ _ _ _ hst (Rds.ofCells 0 rfl 2 2)) rfl fun w26 hst => ⟨(hst.cx 1), ?_⟩); refine Drw.q rfl (hst.cx 1) (bd53_0_1 rfl)<|Drw.z rfl rfl rfl rfl (X.storeS hst 1 sizeOf53 rfl rfl rfl rfl rfl (lZ rfl) rfl rfl fun w3_10 hst => Drw.zy rfl rfl rfl rfl hst.ctx (Y.assignB rfl)<|Drw.done<|W.ret rfl<|⟨_, Rslt.cellTmp results117 rfl (res_at isAgg53 sizeOf53 1 hst rfl rfl) rfl, ?_⟩)
          first
          | (have hk : seenOk p reading := by unfold seenOk; omega
             have hs : seen p reading = ⟨sub reading p.Eps, adds [reading, p.Eps]⟩ := by unfold seen; rw [if_pos hk]
             exact ⟨true, by rw [hs]; first | done | rfl, (decide_eq_true hk).symm, (hst.dr 3)⟩)
          | (have hk : ¬ seenOk p reading := by unfold seenOk; omega
             have hs : seen p reading = ⟨0, 0⟩ := by unfold seen; rw [if_neg hk]
             exact ⟨false, by rw [hs]; first | done | rfl, (decide_eq_false hk).symm, (hst.dr 3)⟩)
        · refine One.ww rfl (X.lits hst underlying24 sizeOf3 zeroValue3 (by rfl) (by rfl) (by rfl) [.int _ _, .int _ _] (by rfl) (by rfl) fun p25 w25 hst => ⟨(hst.cx 1), ?_⟩); refine Drw.ww rfl (X.ret cf53 (sub_any _ _ _ _ _ _ _ hst ) rfl fun w21 hst => ⟨(hst.cx 1), Drw.ww rfl (X.ret cf27 (adds_any [reading, p.Eps] _ _ (by simp) _ _ _ _ _ hst (Rds.ofCells 0 rfl 2 2)) rfl fun w26 hst => ⟨(hst.cx 1), ?_⟩)⟩); refine Drw.q rfl (hst.cx 1) (bd53_0_1 rfl)<|Drw.z rfl rfl rfl rfl (X.storeS hst 1 sizeOf53 rfl rfl rfl rfl rfl (lZ rfl) rfl rfl fun w3_10 hst => Drw.zy rfl rfl rfl rfl hst.ctx (Y.assignB rfl)<|Drw.done<|W.ret rfl<|⟨_, Rslt.cellTmp results117 rfl (res_at isAgg53 sizeOf53 1 hst rfl rfl) rfl, ?_⟩)
          first
          | (have hk : seenOk p reading := by unfold seenOk; omega
             have hs : seen p reading = ⟨sub reading p.Eps, adds [reading, p.Eps]⟩ := by unfold seen; rw [if_pos hk]
             exact ⟨true, by rw [hs]; first | done | rfl, (decide_eq_true hk).symm, (hst.dr 3)⟩)
          | (have hk : ¬ seenOk p reading := by unfold seenOk; omega
             have hs : seen p reading = ⟨0, 0⟩ := by unfold seen; rw [if_neg hk]
             exact ⟨false, by rw [hs]; first | done | rfl, (decide_eq_false hk).symm, (hst.dr 3)⟩)
      · replace hb15 := dT hb15; refine W.condT rfl rfl<|W.sr rfl<|hst.y rfl (bd53_ rfl)<|Ops.ww rfl (X.storeS hst 0 sizeOf53 rfl rfl rfl rfl rfl (lZ rfl) rfl rfl fun w2_1 hst => hst.y rfl (Y.assignB rfl)<|Ops.done rfl<|W.ret rfl<|⟨_, Rslt.cellTmp results117 rfl (res_at isAgg53 sizeOf53 0 hst rfl rfl) rfl, ?_⟩)
        first
        | (have hk : seenOk p reading := by unfold seenOk; omega
           have hs : seen p reading = ⟨sub reading p.Eps, adds [reading, p.Eps]⟩ := by unfold seen; rw [if_pos hk]
           exact ⟨true, by rw [hs]; first | done | rfl, (decide_eq_true hk).symm, (hst.dr 2)⟩)
        | (have hk : ¬ seenOk p reading := by unfold seenOk; omega
           have hs : seen p reading = ⟨0, 0⟩ := by unfold seen; rw [if_neg hk]
           exact ⟨false, by rw [hs]; first | done | rfl, (decide_eq_false hk).symm, (hst.dr 2)⟩)
    · replace hb10 := dT hb10; refine Ops.nn rfl<|Ops.nn rfl<|Ops.nn rfl<|hst.y rfl (Y.pB rfl rfl)<|Ops.done rfl<|W.condT rfl rfl<|W.sr rfl<|hst.y rfl (bd53_ rfl)<|Ops.ww rfl (X.storeS hst 0 sizeOf53 rfl rfl rfl rfl rfl (lZ rfl) rfl rfl fun w2_1 hst => hst.y rfl (Y.assignB rfl)<|Ops.done rfl<|W.ret rfl<|⟨_, Rslt.cellTmp results117 rfl (res_at isAgg53 sizeOf53 0 hst rfl rfl) rfl, ?_⟩)
      first
      | (have hk : seenOk p reading := by unfold seenOk; omega
         have hs : seen p reading = ⟨sub reading p.Eps, adds [reading, p.Eps]⟩ := by unfold seen; rw [if_pos hk]
         exact ⟨true, by rw [hs]; first | done | rfl, (decide_eq_true hk).symm, (hst.dr 2)⟩)
      | (have hk : ¬ seenOk p reading := by unfold seenOk; omega
         have hs : seen p reading = ⟨0, 0⟩ := by unfold seen; rw [if_neg hk]
         exact ⟨false, by rw [hs]; first | done | rfl, (decide_eq_false hk).symm, (hst.dr 2)⟩)
  · replace hb7 := dT hb7; refine Ops.nn rfl<|Ops.nn rfl<|hst.y rfl (Y.pB rfl rfl)<|hst.y rfl (Y.moveB rfl)<|Ops.nn rfl<|Ops.nn rfl<|Ops.nn rfl<|hst.y rfl (Y.pB rfl rfl)<|Ops.done rfl<|W.condT rfl rfl<|W.sr rfl<|hst.y rfl (bd53_ rfl)<|Ops.ww rfl (X.storeS hst 0 sizeOf53 rfl rfl rfl rfl rfl (lZ rfl) rfl rfl fun w2_1 hst => hst.y rfl (Y.assignB rfl)<|Ops.done rfl<|W.ret rfl<|⟨_, Rslt.cellTmp results117 rfl (res_at isAgg53 sizeOf53 0 hst rfl rfl) rfl, ?_⟩)
    first
    | (have hk : seenOk p reading := by unfold seenOk; omega
       have hs : seen p reading = ⟨sub reading p.Eps, adds [reading, p.Eps]⟩ := by unfold seen; rw [if_pos hk]
       exact ⟨true, by rw [hs]; first | done | rfl, (decide_eq_true hk).symm, (hst.dr 2)⟩)
    | (have hk : ¬ seenOk p reading := by unfold seenOk; omega
       have hs : seen p reading = ⟨0, 0⟩ := by unfold seen; rw [if_neg hk]
       exact ⟨false, by rw [hs]; first | done | rfl, (decide_eq_false hk).symm, (hst.dr 2)⟩)
theorem lost_any (p : Par) (w0 w : World) (F0 : List Nat) (L G : List Res) (hst : St w0 F0 w L G) (hD : -9223372036854775808 ≤ p.D + 1 ∧ p.D + 1 ≤ 9223372036854775807) :
    Calls Tryz.prog 178 #[.agg #[.int .i64 p.N, .int .i64 p.F, .int .i64 p.D, .int .i64 p.Beat, .int .i64 p.Rho, .int .i64 p.Delay, .int .i64 p.Jitter, .int .i64 p.Eps, .int .i64 p.Mu, .int .i64 p.Hold, .int .i64 p.Pulse, .int .i64 p.Second]] w fun e w' => e = .returned (.int .i64 (p.D + 1)) ∧ St w0 F0 w' L G := by
  refine W.func func178 rfl ntmps178 rfl<|W.sr rfl<|Ops.ww rfl (X.boxA hst rfl fun p1 w1 hst => hst.y rfl (Y.assignI rfl)<|Ops.ds rfl rfl<|hst.y rfl (Y.fieldAddr fa23_2 rfl)<|hst.y rfl (Y.load 0 isAgg3 rfl rfl rfl)<|hst.y rfl (Y.addI rfl rfl (by omega))<|hst.y rfl (Y.assignI rfl)<|Ops.done rfl<|W.ret rfl<|⟨_, Rslt.one results178 rfl, ?_⟩); exact ⟨rfl, (hst.dr 1)⟩
theorem far_any (p : Par) (held : Int) (w0 w : World) (F0 : List Nat) (L G : List Res) (hst : St w0 F0 w L G)  :
    Calls Tryz.prog 132 #[.agg #[.int .i64 p.N, .int .i64 p.F, .int .i64 p.D, .int .i64 p.Beat, .int .i64 p.Rho, .int .i64 p.Delay, .int .i64 p.Jitter, .int .i64 p.Eps, .int .i64 p.Mu, .int .i64 p.Hold, .int .i64 p.Pulse, .int .i64 p.Second], .int .i64 held] w fun e w' => e = .returned (.int .i64 (far p held)) ∧ St w0 F0 w' L G := by
  refine W.func func132 rfl ntmps132 rfl<|W.sr rfl<|Ops.ww rfl (X.boxA hst rfl fun p2 w2 hst => hst.y rfl (Y.assignI rfl)<|Ops.done rfl<|W.seq rfl<|W.drawn rfl (by kernel_rfl) (Ctx _ _ (_) (_)) [] (.op 0 0 (.op 1 0 (.op 2 0 (.op 3 0 (.op 6 0 (.op 7 0 (.op 4 1 (.op 5 1 (.op 8 1 (.op 9 1 (.op 10 0 .nil))))))))))) rfl (by kernel_rfl) hst.drew.ctx<|?_); replace hst := hst.drew; generalize World.drew _ = wd at hst ⊢; refine hst.z rfl (Y.loadA 0 isAgg23 sizeOf23 rfl rfl rfl rfl)<|hst.z rfl (Y.moveI rfl)<|hst.z rfl (Y.fieldAddr fa23_9 rfl)<|hst.z rfl (Y.load 0 isAgg3 rfl rfl rfl)<|hst.z rfl (Y.fieldAddr fa23_2 rfl)<|hst.z rfl (Y.load 0 isAgg3 rfl rfl rfl)<|Drw.ww rfl (X.lits hst underlying24 sizeOf3 zeroValue3 (by rfl) (by rfl) (by rfl) [.int _ _, .int _ _] (by rfl) (by rfl) fun p9 w9 hst => ⟨(hst.cx 1), ?_⟩); refine Drw.ww rfl (X.ret cf142 (maxs_any [held, p.Hold] _ _ (by simp) _ _ _ _ _ hst (Rds.ofCells 0 rfl 2 2)) rfl fun w10 hst => ⟨(hst.cx 1), ?_⟩); refine Drw.ww rfl (X.ret cf46 (width_any p _ _ _ _ _ _ _ hst ) rfl fun w13 hst => ⟨(hst.cx 1), Drw.ww rfl (X.ret cf45 (mul_any _ _ _ _ _ _ _ hst ) rfl fun w14 hst => ⟨(hst.cx 1), Drw.q rfl (hst.cx 1) (Y.assignI rfl)<|Drw.done<|W.ret rfl<|⟨_, Rslt.one results132 rfl, ?_⟩⟩)⟩); exact ⟨rfl, (hst.dr 2)⟩
theorem bd55_0 {S ρ ty} {parts : Array (Nat × Operand)} {x0 : Int} (hp : (parts.toList.map fun x => (x.1, ev ρ x.2)) = [(0, Value.int .i64 x0)]) : Y Tryz.prog S ρ (.build 55 parts) ty (.agg #[Value.int .i64 x0, Value.int .i64 0]) :=
  Y.build hp fun w => by simp [Instr.build, go_sem]
theorem bd55_0_1 {S ρ ty} {parts : Array (Nat × Operand)} {x0 : Int} {x1 : Int} (hp : (parts.toList.map fun x => (x.1, ev ρ x.2)) = [(0, Value.int .i64 x0), (1, Value.int .i64 x1)]) : Y Tryz.prog S ρ (.build 55 parts) ty (.agg #[Value.int .i64 x0, Value.int .i64 x1]) :=
  Y.build hp fun w => by simp [Instr.build, go_sem]
theorem bd241_0_1 {S ρ ty} {parts : Array (Nat × Operand)} {x0 : Int} {x1 : Bool} (hp : (parts.toList.map fun x => (x.1, ev ρ x.2)) = [(0, Value.int .i64 x0), (1, Value.bool x1)]) : Y Tryz.prog S ρ (.build 241 parts) ty (.agg #[Value.int .i64 x0, Value.bool x1]) :=
  Y.build hp fun w => by simp [Instr.build, go_sem]
theorem bd244_0 {S ρ ty} {parts : Array (Nat × Operand)} {x0_0 : Int} {x0_1 : Int} (hp : (parts.toList.map fun x => (x.1, ev ρ x.2)) = [(0, .agg #[Value.int .i64 x0_0, Value.int .i64 x0_1])]) : Y Tryz.prog S ρ (.build 244 parts) ty (.agg #[Value.int .i64 x0_0, Value.int .i64 x0_1]) :=
  Y.build hp fun w => by simp [Instr.build, go_sem]
theorem fa23_8 : FA 23 8 8 := fun _ _ => by simp [Instr.fieldAt, Instr.sureAddr, go_sem]
theorem fa55_0 : FA 55 0 0 := fun _ _ => by simp [Instr.fieldAt, Instr.sureAddr, go_sem]
theorem fa55_1 : FA 55 1 1 := fun _ _ => by simp [Instr.fieldAt, Instr.sureAddr, go_sem]
theorem fa241_0 : FA 241 0 0 := fun _ _ => by simp [Instr.fieldAt, Instr.sureAddr, go_sem]
theorem fa241_1 : FA 241 1 1 := fun _ _ => by simp [Instr.fieldAt, Instr.sureAddr, go_sem]
theorem fa244_0 : FA 244 0 0 := fun _ _ => by simp [Instr.fieldAt, Instr.sureAddr, go_sem]
theorem cf42 : CF 42 := fun _ _ => by simp [go_sem]
theorem cf136 : CF 136 := fun _ _ => by simp [go_sem]
theorem cf143 : CF 143 := fun _ _ => by simp [go_sem]
theorem cf193 : CF 193 := fun _ _ => by simp [go_sem]
theorem cf199 : CF 199 := fun _ _ => by simp [go_sem]
theorem tdiv_two {a c : Int} (hc : 1 ≤ c) : (a.tmod c < 0 → a.tdiv c - 1 = a / c ∧ a.tmod c + c = a % c) ∧ (¬ a.tmod c < 0 → a.tdiv c = a / c ∧ a.tmod c = a % c) := by
  have h1 := Int.mul_tdiv_add_tmod a c; have h2 := Int.tmod_lt_of_pos a (b := c) (by omega); have h3 := Int.lt_tmod_of_pos a (b := c) (by omega); constructor
  · intro h; have h4 : c * (a.tdiv c - 1) = c * a.tdiv c - c := by rw [Int.mul_sub, Int.mul_one]
    obtain ⟨e1, e2⟩ := (Int.ediv_emod_unique (a := a) (b := c) (r := a.tmod c + c) (q := a.tdiv c - 1) (by omega)).2 ⟨by omega, by omega, by omega⟩; exact ⟨e1.symm, e2.symm⟩
  · intro h; obtain ⟨e1, e2⟩ := (Int.ediv_emod_unique (a := a) (b := c) (r := a.tmod c) (q := a.tdiv c) (by omega)).2 ⟨by omega, by omega, by omega⟩; exact ⟨e1.symm, e2.symm⟩
theorem tdiv_in {a c : Int} (ha : -2305843009213693952 ≤ a ∧ a ≤ 2305843009213693952) (hc : 1 ≤ c) : -2305843009213693952 ≤ a.tdiv c ∧ a.tdiv c ≤ 2305843009213693952 := by
  have h := Int.natAbs_tdiv a c; have h2 := Nat.div_le_self a.natAbs c.natAbs; change (a.tdiv c).natAbs = a.natAbs / c.natAbs at h; omega
theorem Y.quoT {P : Program} {ρ : Env} {S : World → Prop} {ty t t' : TypeId} {x y : Operand} {m m' : Int} (hx : ev ρ x = .int .i64 m) (hy : ev ρ y = .int .i64 m') (ha : -2305843009213693952 ≤ m ∧ m ≤ 2305843009213693952) (hc : 1 ≤ m') : Y P S ρ (.binOp .quo t x y t') ty (.int .i64 (m.tdiv m')) := by
  have h := Y.quo (P := P) (S := S) (t := t) (t' := t') (ty := ty) hx hy (by omega); have h2 := tdiv_in ha hc; rwa [IntWalk.i64_in _ (by omega)] at h
theorem ret_two {a b c d : Int} (h : a = c) (h2 : b = d) : Ending.returned (.tuple #[.int .i64 a, .int .i64 b]) = .returned (.tuple #[.int .i64 c, .int .i64 d]) := by rw [h, h2]
theorem div_any (a : Int) (c : Int) (w0 w : World) (F0 : List Nat) (L G : List Res) (hst : St w0 F0 w L G)  :
    Calls Tryz.prog 70 #[.int .i64 a, .int .i64 c] w fun e w' => e = .returned (.tuple #[.int .i64 (clip a / max (clip c) 1), .int .i64 (clip a % max (clip c) 1)]) ∧ St w0 F0 w' L G := by
  refine W.func func70 rfl ntmps70 rfl<|W.sr rfl<|hst.y rfl (Y.assignI rfl)<|hst.y rfl (Y.assignI rfl)<|Ops.done rfl<|W.seq rfl<|?_; have ha := clip_in a; have hc := clip_in c; have hm : 1 ≤ max (clip c) 1 := by omega
  have ht := tdiv_two (a := clip a) hm; have hti := tdiv_in ha hm; have hml := Int.tmod_lt_of_pos (clip a) (b := max (clip c) 1) (by omega); have hmr := Int.lt_tmod_of_pos (clip a) (b := max (clip c) 1) (by omega); refine W.region rfl<|hst.y rfl (Y.moveI rfl)<|Ops.ww rfl (X.ret cf38 (clip_any _ _ _ _ _ _ hst ) rfl fun w9 hst => hst.y rfl (Y.moveI rfl)<|Ops.ww rfl (X.ret cf38 (clip_any _ _ _ _ _ _ hst ) rfl fun w11 hst => hst.y rfl (Y.max2 rfl rfl)<|hst.y rfl (Y.assignI rfl)<|hst.y rfl (Y.assignI rfl)<|Ops.done rfl<|W.seq rfl<|W.drawn rfl (by kernel_rfl) (Ctx _ _ (_) (_)) [] (.op 0 0 (.op 1 0 (.op 2 0 (.op 3 0 (.op 4 0 (.op 5 0 (.op 6 0 (.op 7 0 .nil)))))))) rfl (by kernel_rfl) hst.drew.ctx<|?_)); replace hst := hst.drew; generalize World.drew _ = wd at hst ⊢; refine hst.z rfl (Y.moveI rfl)<|hst.z rfl (Y.moveI rfl)<|hst.z rfl (Y.quoT rfl rfl ha hm)<|hst.z rfl (Y.moveI rfl)<|hst.z rfl (Y.moveI rfl)<|hst.z rfl (Y.rem rfl rfl (by omega))<|hst.z rfl (Y.assignI rfl)<|hst.z rfl (Y.assignI rfl)<|Drw.done<|W.seq rfl<|W.sr rfl<|hst.y rfl (Y.moveI rfl)<|hst.yb rfl (Y.lss rfl rfl) (fun b20 hb20 => Ops.done rfl<|?_); cases b20
  · replace hb20 := dF hb20; refine W.condF rfl rfl<|W.skip rfl<|W.sr rfl<|hst.y rfl (Y.moveI rfl)<|hst.y rfl (Y.moveI rfl)<|hst.y rfl (Y.assignI rfl)<|hst.y rfl (Y.assignI rfl)<|Ops.done rfl<|W.ret rfl<|⟨_, Rslt.two results70 rfl rfl, ?_⟩; exact ⟨ret_two (ht.2 hb20).1 (ht.2 hb20).2, hst⟩
  · replace hb20 := dT hb20; refine W.condT rfl rfl<|W.region rfl<|hst.y rfl (Y.moveI rfl)<|hst.y rfl (Y.subI rfl rfl (by omega))<|hst.y rfl (Y.moveI rfl)<|hst.y rfl (Y.moveI rfl)<|hst.y rfl (Y.addI rfl rfl (by omega))<|hst.y rfl (Y.assignI rfl)<|hst.y rfl (Y.assignI rfl)<|Ops.ds rfl rfl<|hst.y rfl (Y.moveI rfl)<|hst.y rfl (Y.moveI rfl)<|hst.y rfl (Y.assignI rfl)<|hst.y rfl (Y.assignI rfl)<|Ops.done rfl<|W.ret rfl<|⟨_, Rslt.two results70 rfl rfl, ?_⟩; exact ⟨ret_two (ht.1 hb20).1 (ht.1 hb20).2, hst⟩
theorem pulseNo_any (p : Par) (t : Int) (w0 w : World) (F0 : List Nat) (L G : List Res) (hst : St w0 F0 w L G)  :
    Calls Tryz.prog 48 #[.agg #[.int .i64 p.N, .int .i64 p.F, .int .i64 p.D, .int .i64 p.Beat, .int .i64 p.Rho, .int .i64 p.Delay, .int .i64 p.Jitter, .int .i64 p.Eps, .int .i64 p.Mu, .int .i64 p.Hold, .int .i64 p.Pulse, .int .i64 p.Second], .int .i64 t] w fun e w' => e = .returned (.int .i64 (pulseNo p t)) ∧ St w0 F0 w' L G := by
  refine W.func func48 rfl ntmps48 rfl<|W.sr rfl<|Ops.ww rfl (X.boxA hst rfl fun p2 w2 hst => hst.y rfl (Y.assignI rfl)<|Ops.ds rfl rfl<|hst.y rfl (Y.moveI rfl)<|hst.y rfl (Y.fieldAddr fa23_10 rfl)<|hst.y rfl (Y.load 0 isAgg3 rfl rfl rfl)<|Ops.ww rfl (X.ret cf70 (div_any _ _ _ _ _ _ _ hst ) rfl fun w11 hst => hst.y rfl (Y.moveU rfl)<|hst.y rfl (Y.extract rfl rfl)<|hst.y rfl (Y.extract rfl rfl)<|hst.y rfl (Y.assignI rfl)<|hst.y rfl (Y.assignI rfl)<|Ops.ds rfl rfl<|hst.y rfl (Y.moveI rfl)<|hst.y rfl (Y.assignI rfl)<|Ops.done rfl<|W.ret rfl<|⟨_, Rslt.one results48 rfl, ?_⟩)); exact ⟨rfl, (hst.dr 1)⟩
theorem less_any (a_t a_n : Int) (b_t b_n : Int) (w0 w : World) (F0 : List Nat) (L G : List Res) (hst : St w0 F0 w L G)  :
    Calls Tryz.prog 199 #[.agg #[.int .i64 a_t, .int .i64 a_n], .agg #[.int .i64 b_t, .int .i64 b_n]] w fun e w' => ∃ b, e = .returned (.bool b) ∧ b = decide (Sta.Less ⟨a_t, a_n⟩ ⟨b_t, b_n⟩) ∧ St w0 F0 w' L G := by
  refine W.func func199 rfl ntmps199 rfl<|W.sr rfl<|Ops.ww rfl (X.boxA hst rfl fun p2 w2 hst => Ops.ww rfl (X.boxA hst rfl fun p3 w3 hst => hst.y rfl (Y.assignB rfl)<|Ops.ds rfl rfl<|hst.y rfl (Y.fieldAddr fa55_0 rfl)<|hst.y rfl (Y.load 1 isAgg3 rfl rfl rfl)<|hst.y rfl (Y.fieldAddr fa55_0 rfl)<|hst.y rfl (Y.load 0 isAgg3 rfl rfl rfl)<|hst.yb rfl (Y.lss rfl rfl) (fun b9 hb9 => hst.y rfl (Y.moveB rfl)<|?_))); cases b9
  · replace hb9 := dF hb9; refine hst.y rfl (Y.fieldAddr fa55_0 rfl)<|hst.y rfl (Y.load 1 isAgg3 rfl rfl rfl)<|hst.y rfl (Y.fieldAddr fa55_0 rfl)<|hst.y rfl (Y.load 0 isAgg3 rfl rfl rfl)<|hst.yb rfl (Y.eql rfl rfl) (fun b15 hb15 => hst.y rfl (Y.moveB rfl)<|?_); cases b15
    · replace hb15 := dF hb15; refine Ops.nn rfl<|Ops.nn rfl<|Ops.nn rfl<|Ops.nn rfl<|Ops.nn rfl<|hst.y rfl (Y.pB rfl rfl)<|hst.y rfl (Y.pB rfl rfl)<|hst.y rfl (Y.assignB rfl)<|Ops.done rfl<|W.ret rfl<|⟨_, Rslt.one results199 rfl, ?_⟩; refine ⟨_, rfl, ?_, (hst.dr 2)⟩; unfold Sta.Less
      first | exact (decide_eq_true (by simp only; omega)).symm | exact (decide_eq_false (by simp only; omega)).symm
    · replace hb15 := dT hb15; refine hst.y rfl (Y.fieldAddr fa55_1 rfl)<|hst.y rfl (Y.load 1 isAgg3 rfl rfl rfl)<|hst.y rfl (Y.fieldAddr fa55_1 rfl)<|hst.y rfl (Y.load 0 isAgg3 rfl rfl rfl)<|hst.yb rfl (Y.lss rfl rfl) (fun b21 hb21 => hst.y rfl (Y.pB rfl rfl)<|hst.y rfl (Y.pB rfl rfl)<|hst.y rfl (Y.assignB rfl)<|Ops.done rfl<|W.ret rfl<|?_); cases b21
      · replace hb21 := dF hb21; refine ⟨_, Rslt.one results199 rfl, ?_⟩; refine ⟨_, rfl, ?_, (hst.dr 2)⟩; unfold Sta.Less
        first | exact (decide_eq_true (by simp only; omega)).symm | exact (decide_eq_false (by simp only; omega)).symm
      · replace hb21 := dT hb21; refine ⟨_, Rslt.one results199 rfl, ?_⟩; refine ⟨_, rfl, ?_, (hst.dr 2)⟩; unfold Sta.Less
        first | exact (decide_eq_true (by simp only; omega)).symm | exact (decide_eq_false (by simp only; omega)).symm
  · replace hb9 := dT hb9; refine Ops.nn rfl<|Ops.nn rfl<|Ops.nn rfl<|Ops.nn rfl<|Ops.nn rfl<|Ops.nn rfl<|Ops.nn rfl<|Ops.nn rfl<|Ops.nn rfl<|Ops.nn rfl<|Ops.nn rfl<|Ops.nn rfl<|hst.y rfl (Y.pB rfl rfl)<|hst.y rfl (Y.assignB rfl)<|Ops.done rfl<|W.ret rfl<|⟨_, Rslt.one results199 rfl, ?_⟩; refine ⟨_, rfl, ?_, (hst.dr 2)⟩; unfold Sta.Less
    first | exact (decide_eq_true (by simp only; omega)).symm | exact (decide_eq_false (by simp only; omega)).symm
theorem right_any (a_t a_n : Int) (w0 w : World) (F0 : List Nat) (L G : List Res) (hst : St w0 F0 w L G)  :
    Calls Tryz.prog 42 #[.agg #[.int .i64 a_t, .int .i64 a_n]] w fun e w' => ∃ b, e = .returned (.bool b) ∧ b = decide (Sta.Right ⟨a_t, a_n⟩) ∧ St w0 F0 w' L G := by
  refine W.func func42 rfl ntmps42 rfl<|W.sr rfl<|Ops.ww rfl (X.boxA hst rfl fun p1 w1 hst => hst.y rfl (Y.assignB rfl)<|Ops.ds rfl rfl<|hst.y rfl (Y.fieldAddr fa55_0 rfl)<|hst.y rfl (Y.load 0 isAgg3 rfl rfl rfl)<|hst.yb rfl (Y.geq rfl rfl) (fun b5 hb5 => hst.y rfl (Y.moveB rfl)<|?_)); cases b5
  · replace hb5 := dF hb5; refine Ops.nn rfl<|Ops.nn rfl<|Ops.nn rfl<|hst.y rfl (Y.pB rfl rfl)<|hst.y rfl (Y.moveB rfl)<|Ops.nn rfl<|Ops.nn rfl<|Ops.nn rfl<|hst.y rfl (Y.pB rfl rfl)<|hst.y rfl (Y.moveB rfl)<|Ops.nn rfl<|Ops.nn rfl<|Ops.nn rfl<|hst.y rfl (Y.pB rfl rfl)<|hst.y rfl (Y.assignB rfl)<|Ops.done rfl<|W.ret rfl<|⟨_, Rslt.one results42 rfl, ?_⟩; refine ⟨_, rfl, ?_, (hst.dr 1)⟩; unfold Sta.Right
    first | exact (decide_eq_true (by simp only; omega)).symm | exact (decide_eq_false (by simp only; omega)).symm
  · replace hb5 := dT hb5; refine hst.y rfl (Y.fieldAddr fa55_0 rfl)<|hst.y rfl (Y.load 0 isAgg3 rfl rfl rfl)<|hst.yb rfl (Y.leq rfl rfl) (fun b9 hb9 => hst.y rfl (Y.pB rfl rfl)<|hst.y rfl (Y.moveB rfl)<|?_); cases b9
    · replace hb9 := dF hb9; refine Ops.nn rfl<|Ops.nn rfl<|Ops.nn rfl<|hst.y rfl (Y.pB rfl rfl)<|hst.y rfl (Y.moveB rfl)<|Ops.nn rfl<|Ops.nn rfl<|Ops.nn rfl<|hst.y rfl (Y.pB rfl rfl)<|hst.y rfl (Y.assignB rfl)<|Ops.done rfl<|W.ret rfl<|⟨_, Rslt.one results42 rfl, ?_⟩; refine ⟨_, rfl, ?_, (hst.dr 1)⟩; unfold Sta.Right
      first | exact (decide_eq_true (by simp only; omega)).symm | exact (decide_eq_false (by simp only; omega)).symm
    · replace hb9 := dT hb9; refine hst.y rfl (Y.fieldAddr fa55_1 rfl)<|hst.y rfl (Y.load 0 isAgg3 rfl rfl rfl)<|hst.yb rfl (Y.geq rfl rfl) (fun b14 hb14 => hst.y rfl (Y.pB rfl rfl)<|hst.y rfl (Y.moveB rfl)<|?_); cases b14
      · replace hb14 := dF hb14; refine Ops.nn rfl<|Ops.nn rfl<|Ops.nn rfl<|hst.y rfl (Y.pB rfl rfl)<|hst.y rfl (Y.assignB rfl)<|Ops.done rfl<|W.ret rfl<|⟨_, Rslt.one results42 rfl, ?_⟩; refine ⟨_, rfl, ?_, (hst.dr 1)⟩; unfold Sta.Right
        first | exact (decide_eq_true (by simp only; omega)).symm | exact (decide_eq_false (by simp only; omega)).symm
      · replace hb14 := dT hb14; refine hst.y rfl (Y.fieldAddr fa55_1 rfl)<|hst.y rfl (Y.load 0 isAgg3 rfl rfl rfl)<|hst.yb rfl (Y.leq rfl rfl) (fun b19 hb19 => hst.y rfl (Y.pB rfl rfl)<|hst.y rfl (Y.assignB rfl)<|Ops.done rfl<|W.ret rfl<|?_); cases b19
        · replace hb19 := dF hb19; refine ⟨_, Rslt.one results42 rfl, ?_⟩; refine ⟨_, rfl, ?_, (hst.dr 1)⟩; unfold Sta.Right
          first | exact (decide_eq_true (by simp only; omega)).symm | exact (decide_eq_false (by simp only; omega)).symm
        · replace hb19 := dT hb19; refine ⟨_, Rslt.one results42 rfl, ?_⟩; refine ⟨_, rfl, ?_, (hst.dr 1)⟩; unfold Sta.Right
          first | exact (decide_eq_true (by simp only; omega)).symm | exact (decide_eq_false (by simp only; omega)).symm
theorem next_any (a_t a_n : Int) (w0 w : World) (F0 : List Nat) (L G : List Res) (hst : St w0 F0 w L G) (hn : a_n ≤ 9223372036854775806) :
    Calls Tryz.prog 143 #[.agg #[.int .i64 a_t, .int .i64 a_n]] w fun e w' => e = .returned (.agg #[.int .i64 (Sta.next ⟨a_t, a_n⟩).t, .int .i64 (Sta.next ⟨a_t, a_n⟩).n]) ∧ St w0 F0 w' L G := by
  refine W.func func143 rfl ntmps143 rfl<|W.sr rfl<|Ops.ww rfl (X.boxA hst rfl fun p1 w1 hst => Ops.ww rfl (X.allocA hst zeroValue55 fun p2 w2 hst => Ops.done rfl<|W.seq rfl<|W.sr rfl<|hst.y rfl (Y.fieldAddr fa55_1 rfl)<|hst.y rfl (Y.load 1 isAgg3 rfl rfl rfl)<|hst.yb rfl (Y.geq rfl rfl) (fun b5 hb5 => Ops.done rfl<|?_))); cases b5
  · replace hb5 := dF hb5; refine W.condF rfl rfl<|W.skip rfl<|W.seq rfl<|W.drawn rfl (by kernel_rfl) (Ctx _ _ (_) (_)) [8] (.op 0 0 (.op 1 0 (.op 3 0 (.op 4 0 (.op 5 0 (.op 6 0 (.op 2 1 (.op 7 0 (.op 8 1 .nil))))))))) rfl (by kernel_rfl) hst.drew.ctx<|?_; replace hst := hst.drew; generalize World.drew _ = wd at hst ⊢; refine hst.z rfl (Y.fieldAddr fa55_0 rfl)<|hst.z rfl (Y.load 1 isAgg3 rfl rfl rfl)<|hst.z rfl (Y.fieldAddr fa55_1 rfl)<|hst.z rfl (Y.load 1 isAgg3 rfl rfl rfl)<|hst.z rfl (Y.max2 rfl rfl)<|hst.z rfl (Y.addI rfl rfl (by omega))<|Drw.ww rfl (X.ret cf38 (clip_any _ _ _ _ _ _ hst ) rfl fun w13 hst => ⟨hst.ctx, hst.z rfl (bd55_0_1 rfl)<|Drw.z rfl rfl rfl rfl (X.storeS hst 0 sizeOf55 rfl rfl rfl rfl rfl (lZ rfl) rfl rfl fun w3_8 hst => Drw.done<|W.ret rfl<|⟨_, Rslt.cell results143 rfl (res_at isAgg55 sizeOf55 0 hst rfl rfl), ?_⟩)⟩)
    have hq : Sta.next ⟨a_t, a_n⟩ = ⟨clip a_t, max a_n 0 + 1⟩ := by
      unfold Sta.next; rw [if_neg (by simp only; omega)]
    exact ⟨by rw [hq]; first | done | rfl, (hst.dr 2)⟩
  · replace hb5 := dT hb5; refine W.condT rfl rfl<|W.sr rfl<|hst.y rfl (Y.fieldAddr fa55_0 rfl)<|hst.y rfl (Y.load 1 isAgg3 rfl rfl rfl)<|Ops.ww rfl (X.lits hst underlying24 sizeOf3 zeroValue3 (by rfl) (by rfl) (by rfl) [.int _ _, .int _ _] (by rfl) (by rfl) fun p8 w8 hst => ?_); refine Ops.ww rfl (X.ret cf27 (adds_any [a_t, 1] _ _ (by simp) _ _ _ _ _ hst (Rds.ofCells 0 rfl 2 2)) rfl fun w9 hst => ?_); refine hst.y rfl (bd55_0 rfl)<|Ops.ww rfl (X.storeS hst 1 sizeOf55 rfl rfl rfl rfl rfl (lZ rfl) rfl rfl fun w2_5 hst => Ops.done rfl<|W.ret rfl<|⟨_, Rslt.cell results143 rfl (res_at isAgg55 sizeOf55 1 hst rfl rfl), ?_⟩)
    have hq : Sta.next ⟨a_t, a_n⟩ = ⟨adds [a_t, 1], 0⟩ := by
      unfold Sta.next; rw [if_pos (by simp only; omega)]
    exact ⟨by rw [hq]; first | done | rfl, (hst.dr 3)⟩
theorem tick_any (c_t c_n : Int) (now : Int) (w0 w : World) (F0 : List Nat) (L G : List Res) (hst : St w0 F0 w L G) (hn : c_n ≤ 9223372036854775806) :
    Calls Tryz.prog 136 #[.agg #[.int .i64 c_t, .int .i64 c_n], .int .i64 now] w fun e w' => e = .returned (.agg #[.int .i64 (Sta.tick ⟨c_t, c_n⟩ now).t, .int .i64 (Sta.tick ⟨c_t, c_n⟩ now).n]) ∧ St w0 F0 w' L G := by
  refine W.func func136 rfl ntmps136 rfl<|W.sr rfl<|Ops.ww rfl (X.boxA hst rfl fun p2 w2 hst => Ops.ww rfl (X.allocA hst zeroValue244 fun p4 w4 hst => Ops.done rfl<|W.seq rfl<|W.sr rfl<|hst.y rfl (Y.moveI rfl)<|Ops.ww rfl (X.ret cf38 (clip_any _ _ _ _ _ _ hst ) rfl fun w7 hst => hst.y rfl (Y.assignI rfl)<|Ops.ds rfl rfl<|hst.y rfl (Y.moveI rfl)<|hst.y rfl (Y.fieldAddr fa244_0 rfl)<|hst.y rfl (Y.fieldAddr fa55_0 rfl)<|hst.y rfl (Y.load 1 isAgg3 rfl rfl rfl)<|hst.yb rfl (Y.gtr rfl rfl) (fun b12 hb12 => Ops.done rfl<|?_)))); cases b12
  · replace hb12 := dF hb12; refine W.condF rfl rfl<|W.skip rfl<|W.sr rfl<|hst.y rfl (Y.fieldAddr fa244_0 rfl)<|hst.y rfl (Y.loadA 1 isAgg55 sizeOf55 rfl rfl rfl rfl)<|Ops.ww rfl (X.ret cf143 (next_any _ _ _ _ _ _ _ hst (by omega)) rfl fun w18 hst => hst.y rfl (bd244_0 rfl)<|Ops.ww rfl (X.storeS hst 0 sizeOf244 rfl rfl rfl rfl rfl (lZ rfl) rfl rfl fun w4_4 hst => Ops.done rfl<|W.ret rfl<|⟨_, Rslt.cell results136 rfl (res_at isAgg244 sizeOf244 0 hst rfl rfl), ?_⟩))
    have hq : Sta.tick ⟨c_t, c_n⟩ now = Sta.next ⟨c_t, c_n⟩ := by
      unfold Sta.tick; rw [if_neg (by simp only; omega)]
    exact ⟨by rw [hq]; first | done | rfl, (hst.dr 2)⟩
  · replace hb12 := dT hb12; refine W.condT rfl rfl<|W.sr rfl<|hst.y rfl (Y.moveI rfl)<|hst.y rfl (bd55_0 rfl)<|hst.y rfl (bd244_0 rfl)<|Ops.ww rfl (X.storeS hst 0 sizeOf244 rfl rfl rfl rfl rfl (lZ rfl) rfl rfl fun w3_3 hst => Ops.done rfl<|W.ret rfl<|⟨_, Rslt.cell results136 rfl (res_at isAgg244 sizeOf244 0 hst rfl rfl), ?_⟩)
    have hq : Sta.tick ⟨c_t, c_n⟩ now = ⟨clip now, 0⟩ := by
      unfold Sta.tick; rw [if_pos (by simp only; omega)]
    exact ⟨by rw [hq]; first | done | rfl, (hst.dr 2)⟩
theorem mend_any (c_t c_n : Int) (now : Int) (most : Int) (w0 w : World) (F0 : List Nat) (L G : List Res) (hst : St w0 F0 w L G)  :
    Calls Tryz.prog 134 #[.agg #[.int .i64 c_t, .int .i64 c_n], .int .i64 now, .int .i64 most] w fun e w' => ∃ b, e = .returned (.tuple #[.agg #[.int .i64 (Sta.mend ⟨c_t, c_n⟩ now most).t, .int .i64 (Sta.mend ⟨c_t, c_n⟩ now most).n], .bool b]) ∧ b = decide (Sta.mended ⟨c_t, c_n⟩ most) ∧ St w0 F0 w' L G := by
  refine W.func func134 rfl ntmps134 rfl<|W.sr rfl<|Ops.ww rfl (X.boxA hst rfl fun p3 w3 hst => Ops.ww rfl (X.allocA hst zeroValue244 fun p6 w6 hst => hst.y rfl (Y.assignB rfl)<|Ops.done rfl<|W.seq rfl<|W.sr rfl<|hst.y rfl (Y.fieldAddr fa244_0 rfl)<|hst.y rfl (Y.loadA 1 isAgg55 sizeOf55 rfl rfl rfl rfl)<|Ops.ww rfl (X.retB cf42 (right_any _ _ _ _ _ _ _ hst ) rfl fun b10 w10 hb10 hst => hst.y rfl (Y.moveB rfl)<|?_))); cases b10
  · replace hb10 := dF hb10; refine Ops.nn rfl<|Ops.nn rfl<|Ops.nn rfl<|Ops.nn rfl<|Ops.nn rfl<|hst.y rfl (Y.pB rfl rfl)<|Ops.done rfl<|W.condF rfl rfl<|W.skip rfl<|W.sr rfl<|hst.y rfl (Y.moveI rfl)<|Ops.ww rfl (X.ret cf38 (clip_any _ _ _ _ _ _ hst ) rfl fun w20 hst => hst.y rfl (bd55_0 rfl)<|hst.y rfl (bd244_0 rfl)<|Ops.ww rfl (X.storeS hst 0 sizeOf244 rfl rfl rfl rfl rfl (lZ rfl) rfl rfl fun w3_4 hst => hst.y rfl (Y.assignB rfl)<|Ops.done rfl<|W.ret rfl<|⟨_, Rslt.cellTmp results134 rfl (res_at isAgg244 sizeOf244 0 hst rfl rfl) rfl, ?_⟩)); have hm : Sta.mended ⟨c_t, c_n⟩ most := by unfold Sta.mended Sta.Right at *; simp only at *; omega
    have hq : Sta.mend ⟨c_t, c_n⟩ now most = ⟨clip now, 0⟩ := by unfold Sta.mend; rw [if_pos hm]
    exact ⟨true, by rw [hq]; first | done | rfl, (decide_eq_true hm).symm, (hst.dr 2)⟩
  · replace hb10 := dT hb10; refine hst.y rfl (Y.fieldAddr fa244_0 rfl)<|hst.y rfl (Y.fieldAddr fa55_0 rfl)<|hst.y rfl (Y.load 1 isAgg3 rfl rfl rfl)<|hst.y rfl (Y.moveI rfl)<|hst.yb rfl (Y.leq rfl rfl) (fun b16 hb16 => hst.y rfl (Y.pB rfl rfl)<|Ops.done rfl<|?_); cases b16
    · replace hb16 := dF hb16; refine W.condF rfl rfl<|W.skip rfl<|W.sr rfl<|hst.y rfl (Y.moveI rfl)<|Ops.ww rfl (X.ret cf38 (clip_any _ _ _ _ _ _ hst ) rfl fun w20 hst => hst.y rfl (bd55_0 rfl)<|hst.y rfl (bd244_0 rfl)<|Ops.ww rfl (X.storeS hst 0 sizeOf244 rfl rfl rfl rfl rfl (lZ rfl) rfl rfl fun w3_4 hst => hst.y rfl (Y.assignB rfl)<|Ops.done rfl<|W.ret rfl<|⟨_, Rslt.cellTmp results134 rfl (res_at isAgg244 sizeOf244 0 hst rfl rfl) rfl, ?_⟩)); have hm : Sta.mended ⟨c_t, c_n⟩ most := by unfold Sta.mended Sta.Right at *; simp only at *; omega
      have hq : Sta.mend ⟨c_t, c_n⟩ now most = ⟨clip now, 0⟩ := by unfold Sta.mend; rw [if_pos hm]
      exact ⟨true, by rw [hq]; first | done | rfl, (decide_eq_true hm).symm, (hst.dr 2)⟩
    · replace hb16 := dT hb16; refine W.condT rfl rfl<|W.sr rfl<|hst.y rfl (Y.loadA 1 isAgg244 sizeOf244 rfl rfl rfl rfl)<|Ops.ww rfl (X.storeS hst 0 sizeOf244 rfl rfl rfl rfl rfl (lZ rfl) rfl rfl fun w2_1 hst => hst.y rfl (Y.assignB rfl)<|Ops.done rfl<|W.ret rfl<|⟨_, Rslt.cellTmp results134 rfl (res_at isAgg244 sizeOf244 0 hst rfl rfl) rfl, ?_⟩); have hm : ¬ Sta.mended ⟨c_t, c_n⟩ most := by unfold Sta.mended Sta.Right at *; simp only at *; omega
      have hq : Sta.mend ⟨c_t, c_n⟩ now most = ⟨c_t, c_n⟩ := by unfold Sta.mend; rw [if_neg hm]
      exact ⟨false, by rw [hq]; first | done | rfl, (decide_eq_false hm).symm, (hst.dr 2)⟩
theorem slew_any (time : Int) (set : Bool) (p : Par) (ticks : Int) (to : Int) (jump : Bool) (w0 w : World) (F0 : List Nat) (L G : List Res) (hst : St w0 F0 w L G)  :
    Calls Tryz.prog 133 #[.agg #[.int .i64 time, .bool set], .agg #[.int .i64 p.N, .int .i64 p.F, .int .i64 p.D, .int .i64 p.Beat, .int .i64 p.Rho, .int .i64 p.Delay, .int .i64 p.Jitter, .int .i64 p.Eps, .int .i64 p.Mu, .int .i64 p.Hold, .int .i64 p.Pulse, .int .i64 p.Second], .int .i64 ticks, .int .i64 to, .bool jump] w fun e w' => e = .returned (.agg #[.int .i64 (slew p time set ticks to jump), .bool true]) ∧ St w0 F0 w' L G := by
  refine W.func func133 rfl ntmps133 rfl<|W.sr rfl<|Ops.ww rfl (X.boxA hst rfl fun p5 w5 hst => Ops.ww rfl (X.boxA hst rfl fun p6 w6 hst => Ops.ww rfl (X.allocA hst zeroValue241 fun p10 w10 hst => Ops.done rfl<|W.seq rfl<|W.sr rfl<|hst.y rfl (Y.moveB rfl)<|hst.y rfl (Y.moveB rfl)<|?_))); cases jump
  · skip
    refine hst.y rfl (Y.fieldAddr fa241_1 rfl)<|hst.y rfl (Y.load 2 isAgg4 rfl rfl rfl)<|?_; cases set
    · skip
      refine hst.y rfl (Y.not rfl)<|hst.y rfl (Y.pB rfl rfl)<|Ops.done rfl<|W.condT rfl rfl<|W.sr rfl<|hst.y rfl (Y.moveI rfl)<|Ops.ww rfl (X.ret cf38 (clip_any _ _ _ _ _ _ hst ) rfl fun w20 hst => hst.y rfl (bd241_0_1 rfl)<|Ops.ww rfl (X.storeS hst 0 sizeOf241 rfl rfl rfl rfl rfl (lZ rfl) rfl rfl fun w2_3 hst => Ops.done rfl<|W.ret rfl<|⟨_, Rslt.cell results133 rfl (res_at isAgg241 sizeOf241 0 hst rfl rfl), ?_⟩))
      have hq : slew p time false ticks to false = clip to := by
        unfold slew; rw [if_pos (by simp)]
      exact ⟨by rw [hq]; first | done | rfl, (hst.dr 3)⟩
    · skip
      refine hst.y rfl (Y.not rfl)<|hst.y rfl (Y.pB rfl rfl)<|Ops.done rfl<|W.condF rfl rfl<|W.skip rfl<|W.sr rfl<|hst.y rfl (Y.fieldAddr fa241_0 rfl)<|hst.y rfl (Y.load 2 isAgg3 rfl rfl rfl)<|hst.y rfl (Y.moveI rfl)<|Ops.ww rfl (X.lits hst underlying24 sizeOf3 zeroValue3 (by rfl) (by rfl) (by rfl) [.int _ _, .int _ _] (by rfl) (by rfl) fun p25 w25 hst => ?_); refine Ops.ww rfl (X.ret cf27 (adds_any [time, ticks] _ _ (by simp) _ _ _ _ _ hst (Rds.ofCells 0 rfl 2 2)) rfl fun w26 hst => ?_); refine hst.y rfl (Y.assignI rfl)<|Ops.done rfl<|W.seq rfl<|W.drawn rfl (by kernel_rfl) (Ctx _ _ (_) (_)) [] (.op 0 0 (.op 1 0 (.op 3 0 (.op 4 0 (.op 6 0 (.op 7 0 (.op 2 1 (.op 5 1 (.op 8 1 (.op 9 0 .nil)))))))))) rfl (by kernel_rfl) hst.drew.ctx<|?_; replace hst := hst.drew; generalize World.drew _ = wd at hst ⊢; refine hst.z rfl (Y.moveI rfl)<|hst.z rfl (Y.moveI rfl)<|hst.z rfl (Y.fieldAddr fa23_8 rfl)<|hst.z rfl (Y.load 2 isAgg3 rfl rfl rfl)<|hst.z rfl (Y.fieldAddr fa23_8 rfl)<|hst.z rfl (Y.load 2 isAgg3 rfl rfl rfl)<|Drw.ww rfl (X.ret cf53 (sub_any _ _ _ _ _ _ _ hst ) rfl fun w29 hst => ⟨hst.ctx, Drw.ww rfl (X.ret cf75 (neg_any _ _ _ _ _ _ hst ) rfl fun w32 hst => ⟨hst.ctx, Drw.ww rfl (X.ret cf39 (bound_any _ _ _ _ _ _ _ _ hst ) rfl fun w35 hst => ⟨hst.ctx, hst.z rfl (Y.assignI rfl)<|Drw.done<|W.sr rfl<|hst.y rfl (Y.moveI rfl)<|hst.y rfl (Y.moveI rfl)<|Ops.ww rfl (X.lits hst underlying24 sizeOf3 zeroValue3 (by rfl) (by rfl) (by rfl) [.int _ _, .int _ _] (by rfl) (by rfl) fun p38 w38 hst => ?_)⟩)⟩)⟩); refine Ops.ww rfl (X.ret cf27 (adds_any [adds [time, ticks], bound (sub to (adds [time, ticks])) (neg p.Mu) p.Mu] _ _ (by simp) _ _ _ _ _ hst (Rds.ofCells 0 rfl 2 2)) rfl fun w39 hst => ?_); refine hst.y rfl (bd241_0_1 rfl)<|Ops.ww rfl (X.storeS hst 2 sizeOf241 rfl rfl rfl rfl rfl (lZ rfl) rfl rfl fun w5_5 hst => Ops.done rfl<|W.ret rfl<|⟨_, Rslt.cell results133 rfl (res_at isAgg241 sizeOf241 2 hst rfl rfl), ?_⟩)
      have hq : slew p time true ticks to false = adds [adds [time, ticks], bound (sub to (adds [time, ticks])) (neg p.Mu) p.Mu] := by
        unfold slew; rw [if_neg (by simp)]
      exact ⟨by rw [hq]; first | done | rfl, (hst.dr 5)⟩
  · skip
    refine Ops.nn rfl<|Ops.nn rfl<|Ops.nn rfl<|hst.y rfl (Y.pB rfl rfl)<|Ops.done rfl<|W.condT rfl rfl<|W.sr rfl<|hst.y rfl (Y.moveI rfl)<|Ops.ww rfl (X.ret cf38 (clip_any _ _ _ _ _ _ hst ) rfl fun w20 hst => hst.y rfl (bd241_0_1 rfl)<|Ops.ww rfl (X.storeS hst 0 sizeOf241 rfl rfl rfl rfl rfl (lZ rfl) rfl rfl fun w2_3 hst => Ops.done rfl<|W.ret rfl<|⟨_, Rslt.cell results133 rfl (res_at isAgg241 sizeOf241 0 hst rfl rfl), ?_⟩))
    have hq : slew p time set ticks to true = clip to := by
      unfold slew; rw [if_pos (by simp)]
    exact ⟨by rw [hq]; first | done | rfl, (hst.dr 3)⟩
theorem last_snoc (x : Int × Int) {l : List (Int × Int)} {k : Nat} (h : k < l.length) : Sta.last x (l.take (k + 1)) = (Sta.last x (l.take k)).later (Sta.of (lp l k)) := by
  unfold Sta.last; rw [List.take_succ_eq_append_getElem h, List.foldl_append]; simp [lp, h]
theorem later_any (x : Int × Int) (l : List (Int × Int)) (A : Option Addr) (cap : Nat) (hl : l.length < 9223372036854775807) (w0 w : World) (F0 : List Nat) (L G : List Res) (hst : St w0 F0 w L G) (hr : Rds L G (.slice A (l.length + 1) cap) (l.length + 1) (lcs (x :: l))) :
    Calls Tryz.prog 193 #[.slice A (l.length + 1) cap] w fun e w' => e = .returned (.agg #[.int .i64 (Sta.last x l).t, .int .i64 (Sta.last x l).n]) ∧ St w0 F0 w' L G := by
  have hne : A ≠ none := ((hr.sl hst).ne (by simp [lcs])); refine W.func func193 rfl ntmps193 rfl<|W.sr rfl<|Ops.ww rfl (X.allocA hst zeroValue55 fun p2 w2 hst => Ops.ds rfl rfl<|hst.y rfl (Y.moveS rfl)<|hst.y rfl (Y.indexAddr underlying312 sizeOf55 rfl rfl hne (by omega))<|hst.y rfl (Y.loadSlA isAgg55 sizeOf55 rfl (hr.cons _) (lcs_two (l := x :: l) (k := 0) (by simp)) rfl)<|?_); refine Ops.ww rfl (X.allocA hst zeroValue55 fun p3 w3 hst => Ops.ww rfl (X.storeS hst 0 sizeOf55 rfl rfl rfl rfl rfl (lZ rfl) rfl rfl fun w1_4 hst => Ops.done rfl<|W.seq rfl<|W.seq rfl<|?_)); have hrk := hr.dropN (size := 2) (k := 1) (by rw [lcs_length]; rfl) (by omega); rw [show l.length + 1 - 1 = l.length by omega] at hrk; change Rds L G _ l.length (lcs l) at hrk; refine W.region rfl<|hst.y rfl (Y.moveS rfl)<|hst.y rfl (Y.sliceLo underlying312 sizeOf55 rfl rfl (m := 1) rfl (by omega))<|hst.y rfl (Y.lenS underlying312 rfl)<|hst.y rfl (Y.moveI rfl)<|Ops.done rfl<|W.block rfl<|?_; refine W.loop (γ := Nat) [(2, .pointer _), (3, .pointer _), (10, .slice _ _ _), (11, .int _ _)] (fun k => [(12, .int .i64 (k : Int))]) (fun k w => k ≤ l.length ∧ St w0 F0 w (cellsR p3 [.int .i64 (Sta.last x (l.take k)).t, .int .i64 (Sta.last x (l.take k)).n] 55 :: cellsR p2 [.int .i64 0, .int .i64 0] 55 :: L) G) (fun k => l.length - k) (0) rfl ⟨rfl, rfl, rfl, rfl, trivial⟩ ?_ ?_ ?_
  · exact ⟨rfl, trivial⟩
  · exact ⟨by omega, hst⟩
  · clear hst; rintro k j w3 ⟨hk, hst⟩; refine W.sr rfl<|hst.yb rfl (Y.lss rfl rfl) (fun b13 hb13 => Ops.done rfl<|W.seq rfl<|?_); cases b13
    · replace hb13 := dF hb13; refine W.condF rfl rfl<|W.exit rfl<|W.seq rfl<|?_; have hk1 : k = l.length := by omega
      refine W.region rfl<|hst.y rfl (Y.loadA 0 isAgg55 sizeOf55 rfl rfl rfl rfl)<|Ops.ww rfl (X.storeS hst 1 sizeOf55 rfl rfl rfl rfl rfl (lZ rfl) rfl rfl fun w8_1 hst => Ops.done rfl<|W.ret rfl<|⟨_, Rslt.cell results193 rfl (res_at isAgg55 sizeOf55 1 hst rfl rfl), ?_⟩); exact ⟨by rw [hk1, List.take_length]; rfl, (hst.dr 2)⟩
    · replace hb13 := dT hb13; refine W.condT rfl rfl<|W.skip rfl<|W.seq rfl<|W.block rfl<|W.seq rfl<|?_; have hk1 : k < l.length := by omega
      refine W.region rfl<|hst.y rfl (Y.indexAddr underlying312 sizeOf55 rfl rfl ((((hrk.cons _).cons _).sl hst).ne (by rw [lcs_length]; omega)) (by omega))<|?_; refine hst.y rfl (Y.loadSlA isAgg55 sizeOf55 rfl (hrk.cons _ |>.cons _) (lcs_two hk1) rfl)<|Ops.ww rfl (X.allocA hst zeroValue55 fun p5 w5 hst => Ops.ww rfl (X.storeS hst 0 sizeOf55 rfl rfl rfl rfl rfl (lZ rfl) rfl rfl fun w4_3 hst => Ops.ds rfl rfl<|hst.y rfl (Y.loadA 1 isAgg55 sizeOf55 rfl rfl rfl rfl)<|hst.y rfl (Y.loadA 0 isAgg55 sizeOf55 rfl rfl rfl rfl)<|Ops.ww rfl (X.retB cf199 (less_any _ _ _ _ _ _ _ _ _ hst ) rfl fun b18 w18 hb18 hst => Ops.done rfl<|?_))); cases b18
      · replace hb18 := dF hb18; refine W.condF rfl rfl<|W.skip rfl<|W.region rfl<|hst.y rfl (Y.addI rfl rfl (by omega))<|hst.y rfl (Y.moveI rfl)<|Ops.done rfl<|?_; have e := (last_snoc x hk1).trans (if_neg hb18); exact ⟨k + 1, ⟨rfl, trivial⟩, ⟨rfl, rfl, rfl, rfl, trivial⟩, ⟨by omega, by rw [e]; exact (hst.dr 1)⟩, by omega⟩
      · replace hb18 := dT hb18; refine W.condT rfl rfl<|W.region rfl<|hst.y rfl (Y.loadA 0 isAgg55 sizeOf55 rfl rfl rfl rfl)<|Ops.ww rfl (X.storeS hst 1 sizeOf55 rfl rfl rfl rfl rfl (lZ rfl) rfl rfl fun w6_1 hst => Ops.done rfl<|W.region rfl<|hst.y rfl (Y.addI rfl rfl (by omega))<|hst.y rfl (Y.moveI rfl)<|Ops.done rfl<|?_); have e := (last_snoc x hk1).trans (if_pos hb18); exact ⟨k + 1, ⟨rfl, trivial⟩, ⟨rfl, rfl, rfl, rfl, trivial⟩, ⟨by omega, by rw [e]; exact (hst.dr 1)⟩, by omega⟩
theorem last_n {c_t c_n s_t s_n now : Int} (hn : c_n ≤ 9223372036854775806) (hs : s_n ≤ 1073741824) : (Sta.last (c_t, c_n) [(s_t, s_n), (clip now, -1)]).n ≤ 9223372036854775806 := by
  simp only [Sta.last, List.foldl_cons, List.foldl_nil, Sta.of]; unfold Sta.later; have h1 : (-1 : Int) ≤ 9223372036854775806 := by decide
  have h2 : s_n ≤ 9223372036854775806 := by omega
  split <;> split <;> assumption
theorem hear_any (c_t c_n : Int) (now : Int) (s_t s_n : Int) (most : Int) (w0 w : World) (F0 : List Nat) (L G : List Res) (hst : St w0 F0 w L G) (hn : c_n ≤ 9223372036854775806) :
    Calls Tryz.prog 186 #[.agg #[.int .i64 c_t, .int .i64 c_n], .int .i64 now, .agg #[.int .i64 s_t, .int .i64 s_n], .int .i64 most] w fun e w' => ∃ b, e = .returned (.tuple #[.agg #[.int .i64 (Sta.hear ⟨c_t, c_n⟩ now ⟨s_t, s_n⟩ most).t, .int .i64 (Sta.hear ⟨c_t, c_n⟩ now ⟨s_t, s_n⟩ most).n], .bool b]) ∧ St w0 F0 w' L G := by
  refine W.func func186 rfl ntmps186 rfl<|W.sr rfl<|Ops.ww rfl (X.boxA hst rfl fun p4 w4 hst => Ops.ww rfl (X.boxA hst rfl fun p6 w6 hst => Ops.ww rfl (X.allocA hst zeroValue244 fun p8 w8 hst => hst.y rfl (Y.assignB rfl)<|Ops.done rfl<|W.seq rfl<|W.sr rfl<|hst.y rfl (Y.loadA 1 isAgg55 sizeOf55 rfl rfl rfl rfl)<|Ops.ww rfl (X.retB cf42 (right_any _ _ _ _ _ _ _ hst ) rfl fun b11 w11 hb11 hst => ?_)))); cases b11
  · replace hb11 := dF hb11; refine hst.y rfl (Y.not rfl)<|hst.y rfl (Y.moveB rfl)<|Ops.nn rfl<|Ops.nn rfl<|Ops.nn rfl<|Ops.nn rfl<|hst.y rfl (Y.pB rfl rfl)<|Ops.done rfl<|W.condT rfl rfl<|W.sr rfl<|hst.y rfl (Y.loadA 2 isAgg244 sizeOf244 rfl rfl rfl rfl)<|hst.y rfl (Y.moveI rfl)<|Ops.ww rfl (X.ret cf136 (tick_any _ _ _ _ _ _ _ _ hst (by omega)) rfl fun w21 hst => Ops.ww rfl (X.storeS hst 0 sizeOf244 rfl rfl rfl rfl rfl (lZ rfl) rfl rfl fun w2_3 hst => hst.y rfl (Y.assignB rfl)<|Ops.done rfl<|W.ret rfl<|⟨_, Rslt.cellTmp results186 rfl (res_at isAgg244 sizeOf244 0 hst rfl rfl) rfl, ?_⟩)); have hq : Sta.hear ⟨c_t, c_n⟩ now ⟨s_t, s_n⟩ most = (Sta.tick ⟨c_t, c_n⟩ now) := by unfold Sta.hear; exact if_pos (.inl hb11)
    exact ⟨false, by rw [hq]; first | done | rfl, (hst.dr 3)⟩
  · replace hb11 := dT hb11; refine hst.y rfl (Y.not rfl)<|hst.y rfl (Y.moveB rfl)<|hst.y rfl (Y.fieldAddr fa55_0 rfl)<|hst.y rfl (Y.load 1 isAgg3 rfl rfl rfl)<|hst.y rfl (Y.moveI rfl)<|hst.yb rfl (Y.gtr rfl rfl) (fun b17 hb17 => hst.y rfl (Y.pB rfl rfl)<|Ops.done rfl<|?_); cases b17
    · replace hb17 := dF hb17; refine W.condF rfl rfl<|W.skip rfl<|W.seq rfl<|W.drawn rfl (by kernel_rfl) (Ctx _ _ (_) (_)) [10, 11] (.op 0 0 (.op 1 0 (.op 2 0 (.op 3 0 (.op 4 1 (.op 5 0 (.op 6 1 (.op 7 1 (.op 8 1 (.op 9 0 (.op 10 1 (.op 11 1 .nil)))))))))))) rfl (by kernel_rfl) hst.drew.ctx<|?_; replace hst := hst.drew; generalize World.drew _ = wd at hst ⊢; refine hst.z rfl (Y.fieldAddr fa244_0 rfl)<|hst.z rfl (Y.loadA 2 isAgg55 sizeOf55 rfl rfl rfl rfl)<|hst.z rfl (Y.loadA 1 isAgg55 sizeOf55 rfl rfl rfl rfl)<|hst.z rfl (Y.moveI rfl)<|Drw.ww rfl (X.ret cf38 (clip_any _ _ _ _ _ _ hst ) rfl fun w26 hst => ⟨hst.ctx, hst.z rfl (bd55_0_1 rfl)<|Drw.ww rfl (X.litsS hst underlying312 sizeOf55 zeroValue55 (by rfl) (vals := [(0, .agg #[.int .i64 c_t, .int .i64 c_n]), (1, .agg #[.int .i64 s_t, .int .i64 s_n]), (2, .agg #[.int .i64 (clip now), .int .i64 (-1)])]) rfl (cs := lcs [(c_t, c_n), (s_t, s_n), (clip now, -1)]) (lit3s ..) fun p28 w28 hst => ⟨(hst.cx 1), ?_⟩)⟩); refine Drw.ww rfl (X.ret cf193 (later_any (c_t, c_n) [(s_t, s_n), (clip now, -1)] _ _ (by simp) _ _ _ _ _ hst (Rds.ofCells 0 rfl 3 3)) rfl fun w29 hst => ⟨(hst.cx 1), ?_⟩); refine Drw.ww rfl (X.ret cf143 (next_any _ _ _ _ _ _ _ hst (last_n hn hb11.2.2.2)) rfl fun w30 hst => ⟨(hst.cx 1), Drw.q rfl (hst.cx 1) (bd244_0 rfl)<|Drw.z rfl rfl rfl rfl (X.storeS hst 1 sizeOf244 rfl rfl rfl rfl rfl (lZ rfl) rfl rfl fun w3_10 hst => Drw.zy rfl rfl rfl rfl hst.ctx (Y.assignB rfl)<|Drw.done<|W.ret rfl<|⟨_, Rslt.cellTmp results186 rfl (res_at isAgg244 sizeOf244 1 hst rfl rfl) rfl, ?_⟩)⟩); have hq : Sta.hear ⟨c_t, c_n⟩ now ⟨s_t, s_n⟩ most = (Sta.next (Sta.last (c_t, c_n) [(s_t, s_n), (clip now, -1)])) := by unfold Sta.hear; exact if_neg (by rintro (h | h); exact h hb11; exact hb17 h)
      exact ⟨true, by rw [hq]; first | done | rfl, (hst.dr 4)⟩
    · replace hb17 := dT hb17; refine W.condT rfl rfl<|W.sr rfl<|hst.y rfl (Y.loadA 2 isAgg244 sizeOf244 rfl rfl rfl rfl)<|hst.y rfl (Y.moveI rfl)<|Ops.ww rfl (X.ret cf136 (tick_any _ _ _ _ _ _ _ _ hst (by omega)) rfl fun w21 hst => Ops.ww rfl (X.storeS hst 0 sizeOf244 rfl rfl rfl rfl rfl (lZ rfl) rfl rfl fun w2_3 hst => hst.y rfl (Y.assignB rfl)<|Ops.done rfl<|W.ret rfl<|⟨_, Rslt.cellTmp results186 rfl (res_at isAgg244 sizeOf244 0 hst rfl rfl) rfl, ?_⟩)); have hq : Sta.hear ⟨c_t, c_n⟩ now ⟨s_t, s_n⟩ most = (Sta.tick ⟨c_t, c_n⟩ now) := by unfold Sta.hear; exact if_pos (.inr hb17)
      exact ⟨false, by rw [hq]; first | done | rfl, (hst.dr 3)⟩
theorem fa23_0 : FA 23 0 0 := fun _ _ => by simp [Instr.fieldAt, Instr.sureAddr, go_sem]
theorem fa23_1 : FA 23 1 1 := fun _ _ => by simp [Instr.fieldAt, Instr.sureAddr, go_sem]
theorem fa23_3 : FA 23 3 3 := fun _ _ => by simp [Instr.fieldAt, Instr.sureAddr, go_sem]
theorem fa23_11 : FA 23 11 11 := fun _ _ => by simp [Instr.fieldAt, Instr.sureAddr, go_sem]
theorem fa57_2 : FA 57 2 3 := fun _ _ => by simp [Instr.fieldAt, Instr.sureAddr, go_sem]
theorem fa57_3 : FA 57 3 4 := fun _ _ => by simp [Instr.fieldAt, Instr.sureAddr, go_sem]
theorem fa57_4 : FA 57 4 5 := fun _ _ => by simp [Instr.fieldAt, Instr.sureAddr, go_sem]
theorem fa57_5 : FA 57 5 6 := fun _ _ => by simp [Instr.fieldAt, Instr.sureAddr, go_sem]
theorem fa103_0 : FA 103 0 0 := fun _ _ => by simp [Instr.fieldAt, Instr.sureAddr, go_sem]
theorem fa103_1 : FA 103 1 1 := fun _ _ => by simp [Instr.fieldAt, Instr.sureAddr, go_sem]
theorem fa103_2 : FA 103 2 2 := fun _ _ => by simp [Instr.fieldAt, Instr.sureAddr, go_sem]
theorem fa103_3 : FA 103 3 4 := fun _ _ => by simp [Instr.fieldAt, Instr.sureAddr, go_sem]
theorem fa103_4 : FA 103 4 5 := fun _ _ => by simp [Instr.fieldAt, Instr.sureAddr, go_sem]
theorem fa103_5 : FA 103 5 6 := fun _ _ => by simp [Instr.fieldAt, Instr.sureAddr, go_sem]
theorem cf36 : CF 36 := fun _ _ => by simp [go_sem]
theorem cf51 : CF 51 := fun _ _ => by simp [go_sem]
theorem cf171 : CF 171 := fun _ _ => by simp [go_sem]
theorem cf197 : CF 197 := fun _ _ => by simp [go_sem]
theorem cf198 : CF 198 := fun _ _ => by simp [go_sem]
theorem check_any (p : Par) (w0 w : World) (F0 : List Nat) (L G : List Res) (hst : St w0 F0 w L G)  :
    Calls Tryz.prog 22 #[.agg #[.int .i64 p.N, .int .i64 p.F, .int .i64 p.D, .int .i64 p.Beat, .int .i64 p.Rho, .int .i64 p.Delay, .int .i64 p.Jitter, .int .i64 p.Eps, .int .i64 p.Mu, .int .i64 p.Hold, .int .i64 p.Pulse, .int .i64 p.Second]] w fun e w' => ∃ er : Int, e = .returned (.int .i64 er) ∧ (er = 0 ↔ p.Ok) ∧ St w0 F0 w' L G := by
  refine W.func func22 rfl ntmps22 rfl<|W.sr rfl<|Ops.ww rfl (X.boxA hst rfl fun p1 w1 hst => hst.y rfl (Y.assignI rfl)<|Ops.done rfl<|W.seq rfl<|?_); refine W.cut [(1, .pointer _)] (fun b3 : Bool => [(3, .bool b3)]) (fun b3 w => b3 = decide ((1 ≤ p.N ∧ p.N ≤ 16) ∧ (0 ≤ p.F ∧ p.F ≤ (p.N - 1) / 3) ∧ (0 ≤ p.D ∧ p.D ≤ 16)) ∧ St w0 F0 w (cellsR p1 [.int .i64 p.N, .int .i64 p.F, .int .i64 p.D, .int .i64 p.Beat, .int .i64 p.Rho, .int .i64 p.Delay, .int .i64 p.Jitter, .int .i64 p.Eps, .int .i64 p.Mu, .int .i64 p.Hold, .int .i64 p.Pulse, .int .i64 p.Second] 23 :: L) G) ⟨rfl, trivial⟩ ?_ ?_
  rotate_left
  · clear hst; rintro b3 j w1 ⟨hb3, hst⟩; refine W.seq rfl ?_; refine W.cut [(1, .pointer _), (3, .bool _)] (fun b4 : Bool => [(4, .bool b4)]) (fun b4 w => b4 = decide ((1 ≤ p.Beat ∧ p.Beat ≤ 1099511627776) ∧ (0 ≤ p.Rho ∧ p.Rho ≤ p.Beat / 8) ∧ (0 ≤ p.Delay ∧ p.Delay ≤ p.Beat / 2) ∧ (0 ≤ p.Jitter ∧ p.Jitter ≤ p.Delay)) ∧ St w0 F0 w (cellsR p1 [.int .i64 p.N, .int .i64 p.F, .int .i64 p.D, .int .i64 p.Beat, .int .i64 p.Rho, .int .i64 p.Delay, .int .i64 p.Jitter, .int .i64 p.Eps, .int .i64 p.Mu, .int .i64 p.Hold, .int .i64 p.Pulse, .int .i64 p.Second] 23 :: L) G) ⟨rfl, rfl, trivial⟩ ?_ ?_
    rotate_left
    · clear hst; rintro b4 j w1 ⟨hb4, hst⟩; refine W.seq rfl<|W.sr rfl<|hst.y rfl (Y.moveB rfl)<|?_; cases b3
      · replace hb3 := dF hb3; refine hst.y rfl (Y.not rfl)<|hst.y rfl (Y.moveB rfl)<|Ops.nn rfl<|Ops.nn rfl<|hst.y rfl (Y.pB rfl rfl)<|hst.y rfl (Y.moveB rfl)<|Ops.nn rfl<|Ops.nn rfl<|Ops.nn rfl<|Ops.nn rfl<|hst.y rfl (Y.pB rfl rfl)<|hst.y rfl (Y.moveB rfl)<|Ops.nn rfl<|Ops.nn rfl<|Ops.nn rfl<|Ops.nn rfl<|Ops.nn rfl<|Ops.nn rfl<|Ops.nn rfl<|Ops.nn rfl<|Ops.nn rfl<|Ops.nn rfl<|hst.y rfl (Y.pB rfl rfl)<|hst.y rfl (Y.moveB rfl)<|Ops.nn rfl<|Ops.nn rfl<|Ops.nn rfl<|Ops.nn rfl<|Ops.nn rfl<|Ops.nn rfl<|Ops.nn rfl<|hst.y rfl (Y.pB rfl rfl)<|hst.y rfl (Y.moveB rfl)<|Ops.nn rfl<|Ops.nn rfl<|Ops.nn rfl<|Ops.nn rfl<|hst.y rfl (Y.pB rfl rfl)<|hst.y rfl (Y.moveB rfl)<|Ops.nn rfl<|Ops.nn rfl<|Ops.nn rfl<|Ops.nn rfl<|hst.y rfl (Y.pB rfl rfl)<|Ops.done rfl<|W.condT rfl rfl<|W.sr rfl<|hst.y rfl (Y.assignI rfl)<|Ops.done rfl<|W.ret rfl<|⟨_, Rslt.one results22 rfl, ?_⟩
        first
        | exact ⟨1, rfl, ⟨fun h => absurd h (by decide), fun h => by obtain ⟨_, _, _, _, _, _, _, _, _, _, _, _⟩ := h; omega⟩, (hst.dr 1)⟩
        | exact ⟨0, rfl, ⟨fun _ => ⟨by omega, by omega, by omega, by omega, by omega, by omega, by omega, by omega, by omega, by omega, by omega, by omega⟩, fun _ => rfl⟩, (hst.dr 1)⟩
      · replace hb3 := dT hb3; refine hst.y rfl (Y.not rfl)<|hst.y rfl (Y.moveB rfl)<|hst.y rfl (Y.moveB rfl)<|?_; cases b4
        · replace hb4 := dF hb4; refine hst.y rfl (Y.not rfl)<|hst.y rfl (Y.pB rfl rfl)<|hst.y rfl (Y.moveB rfl)<|Ops.nn rfl<|Ops.nn rfl<|Ops.nn rfl<|Ops.nn rfl<|hst.y rfl (Y.pB rfl rfl)<|hst.y rfl (Y.moveB rfl)<|Ops.nn rfl<|Ops.nn rfl<|Ops.nn rfl<|Ops.nn rfl<|Ops.nn rfl<|Ops.nn rfl<|Ops.nn rfl<|Ops.nn rfl<|Ops.nn rfl<|Ops.nn rfl<|hst.y rfl (Y.pB rfl rfl)<|hst.y rfl (Y.moveB rfl)<|Ops.nn rfl<|Ops.nn rfl<|Ops.nn rfl<|Ops.nn rfl<|Ops.nn rfl<|Ops.nn rfl<|Ops.nn rfl<|hst.y rfl (Y.pB rfl rfl)<|hst.y rfl (Y.moveB rfl)<|Ops.nn rfl<|Ops.nn rfl<|Ops.nn rfl<|Ops.nn rfl<|hst.y rfl (Y.pB rfl rfl)<|hst.y rfl (Y.moveB rfl)<|Ops.nn rfl<|Ops.nn rfl<|Ops.nn rfl<|Ops.nn rfl<|hst.y rfl (Y.pB rfl rfl)<|Ops.done rfl<|W.condT rfl rfl<|W.sr rfl<|hst.y rfl (Y.assignI rfl)<|Ops.done rfl<|W.ret rfl<|⟨_, Rslt.one results22 rfl, ?_⟩
          first
          | exact ⟨1, rfl, ⟨fun h => absurd h (by decide), fun h => by obtain ⟨_, _, _, _, _, _, _, _, _, _, _, _⟩ := h; omega⟩, (hst.dr 1)⟩
          | exact ⟨0, rfl, ⟨fun _ => ⟨by omega, by omega, by omega, by omega, by omega, by omega, by omega, by omega, by omega, by omega, by omega, by omega⟩, fun _ => rfl⟩, (hst.dr 1)⟩
        · replace hb4 := dT hb4; refine hst.y rfl (Y.not rfl)<|hst.y rfl (Y.pB rfl rfl)<|hst.y rfl (Y.moveB rfl)<|hst.y rfl (Y.fieldAddr fa23_7 rfl)<|hst.y rfl (Y.load 0 isAgg3 rfl rfl rfl)<|Ops.ww rfl (X.retB cf51 (lin_any _ _ _ _ _ _ _ _ hst ) rfl fun b57 w57 hb57 hst => ?_); cases b57
          · replace hb57 := dF hb57; refine hst.y rfl (Y.not rfl)<|hst.y rfl (Y.pB rfl rfl)<|hst.y rfl (Y.moveB rfl)<|Ops.nn rfl<|Ops.nn rfl<|Ops.nn rfl<|Ops.nn rfl<|Ops.nn rfl<|Ops.nn rfl<|Ops.nn rfl<|Ops.nn rfl<|Ops.nn rfl<|Ops.nn rfl<|hst.y rfl (Y.pB rfl rfl)<|hst.y rfl (Y.moveB rfl)<|Ops.nn rfl<|Ops.nn rfl<|Ops.nn rfl<|Ops.nn rfl<|Ops.nn rfl<|Ops.nn rfl<|Ops.nn rfl<|hst.y rfl (Y.pB rfl rfl)<|hst.y rfl (Y.moveB rfl)<|Ops.nn rfl<|Ops.nn rfl<|Ops.nn rfl<|Ops.nn rfl<|hst.y rfl (Y.pB rfl rfl)<|hst.y rfl (Y.moveB rfl)<|Ops.nn rfl<|Ops.nn rfl<|Ops.nn rfl<|Ops.nn rfl<|hst.y rfl (Y.pB rfl rfl)<|Ops.done rfl<|W.condT rfl rfl<|W.sr rfl<|hst.y rfl (Y.assignI rfl)<|Ops.done rfl<|W.ret rfl<|⟨_, Rslt.one results22 rfl, ?_⟩
            first
            | exact ⟨1, rfl, ⟨fun h => absurd h (by decide), fun h => by obtain ⟨_, _, _, _, _, _, _, _, _, _, _, _⟩ := h; omega⟩, (hst.dr 1)⟩
            | exact ⟨0, rfl, ⟨fun _ => ⟨by omega, by omega, by omega, by omega, by omega, by omega, by omega, by omega, by omega, by omega, by omega, by omega⟩, fun _ => rfl⟩, (hst.dr 1)⟩
          · replace hb57 := dT hb57; refine hst.y rfl (Y.not rfl)<|hst.y rfl (Y.pB rfl rfl)<|hst.y rfl (Y.moveB rfl)<|hst.y rfl (Y.fieldAddr fa23_8 rfl)<|hst.y rfl (Y.load 0 isAgg3 rfl rfl rfl)<|hst.y rfl (Y.fieldAddr fa23_4 rfl)<|hst.y rfl (Y.load 0 isAgg3 rfl rfl rfl)<|hst.y rfl (Y.addI rfl rfl (by omega))<|hst.y rfl (Y.fieldAddr fa23_3 rfl)<|hst.y rfl (Y.load 0 isAgg3 rfl rfl rfl)<|hst.y rfl (Y.quoI rfl rfl (by omega))<|Ops.ww rfl (X.retB cf51 (lin_any _ _ _ _ _ _ _ _ hst ) rfl fun b69 w69 hb69 hst => ?_); cases b69
            · replace hb69 := dF hb69; refine hst.y rfl (Y.not rfl)<|hst.y rfl (Y.pB rfl rfl)<|hst.y rfl (Y.moveB rfl)<|Ops.nn rfl<|Ops.nn rfl<|Ops.nn rfl<|Ops.nn rfl<|Ops.nn rfl<|Ops.nn rfl<|Ops.nn rfl<|hst.y rfl (Y.pB rfl rfl)<|hst.y rfl (Y.moveB rfl)<|Ops.nn rfl<|Ops.nn rfl<|Ops.nn rfl<|Ops.nn rfl<|hst.y rfl (Y.pB rfl rfl)<|hst.y rfl (Y.moveB rfl)<|Ops.nn rfl<|Ops.nn rfl<|Ops.nn rfl<|Ops.nn rfl<|hst.y rfl (Y.pB rfl rfl)<|Ops.done rfl<|W.condT rfl rfl<|W.sr rfl<|hst.y rfl (Y.assignI rfl)<|Ops.done rfl<|W.ret rfl<|⟨_, Rslt.one results22 rfl, ?_⟩
              first
              | exact ⟨1, rfl, ⟨fun h => absurd h (by decide), fun h => by obtain ⟨_, _, _, _, _, _, _, _, _, _, _, _⟩ := h; omega⟩, (hst.dr 1)⟩
              | exact ⟨0, rfl, ⟨fun _ => ⟨by omega, by omega, by omega, by omega, by omega, by omega, by omega, by omega, by omega, by omega, by omega, by omega⟩, fun _ => rfl⟩, (hst.dr 1)⟩
            · replace hb69 := dT hb69; refine hst.y rfl (Y.not rfl)<|hst.y rfl (Y.pB rfl rfl)<|hst.y rfl (Y.moveB rfl)<|hst.y rfl (Y.fieldAddr fa23_9 rfl)<|hst.y rfl (Y.load 0 isAgg3 rfl rfl rfl)<|hst.y rfl (Y.fieldAddr fa23_2 rfl)<|hst.y rfl (Y.load 0 isAgg3 rfl rfl rfl)<|hst.y rfl (Y.addI rfl rfl (by omega))<|Ops.ww rfl (X.retB cf51 (lin_any _ _ _ _ _ _ _ _ hst ) rfl fun b78 w78 hb78 hst => ?_); cases b78
              · replace hb78 := dF hb78; refine hst.y rfl (Y.not rfl)<|hst.y rfl (Y.pB rfl rfl)<|hst.y rfl (Y.moveB rfl)<|Ops.nn rfl<|Ops.nn rfl<|Ops.nn rfl<|Ops.nn rfl<|hst.y rfl (Y.pB rfl rfl)<|hst.y rfl (Y.moveB rfl)<|Ops.nn rfl<|Ops.nn rfl<|Ops.nn rfl<|Ops.nn rfl<|hst.y rfl (Y.pB rfl rfl)<|Ops.done rfl<|W.condT rfl rfl<|W.sr rfl<|hst.y rfl (Y.assignI rfl)<|Ops.done rfl<|W.ret rfl<|⟨_, Rslt.one results22 rfl, ?_⟩
                first
                | exact ⟨1, rfl, ⟨fun h => absurd h (by decide), fun h => by obtain ⟨_, _, _, _, _, _, _, _, _, _, _, _⟩ := h; omega⟩, (hst.dr 1)⟩
                | exact ⟨0, rfl, ⟨fun _ => ⟨by omega, by omega, by omega, by omega, by omega, by omega, by omega, by omega, by omega, by omega, by omega, by omega⟩, fun _ => rfl⟩, (hst.dr 1)⟩
              · replace hb78 := dT hb78; refine hst.y rfl (Y.not rfl)<|hst.y rfl (Y.pB rfl rfl)<|hst.y rfl (Y.moveB rfl)<|hst.y rfl (Y.fieldAddr fa23_10 rfl)<|hst.y rfl (Y.load 0 isAgg3 rfl rfl rfl)<|Ops.ww rfl (X.retB cf51 (lin_any _ _ _ _ _ _ _ _ hst ) rfl fun b84 w84 hb84 hst => ?_); cases b84
                · replace hb84 := dF hb84; refine hst.y rfl (Y.not rfl)<|hst.y rfl (Y.pB rfl rfl)<|hst.y rfl (Y.moveB rfl)<|Ops.nn rfl<|Ops.nn rfl<|Ops.nn rfl<|Ops.nn rfl<|hst.y rfl (Y.pB rfl rfl)<|Ops.done rfl<|W.condT rfl rfl<|W.sr rfl<|hst.y rfl (Y.assignI rfl)<|Ops.done rfl<|W.ret rfl<|⟨_, Rslt.one results22 rfl, ?_⟩
                  first
                  | exact ⟨1, rfl, ⟨fun h => absurd h (by decide), fun h => by obtain ⟨_, _, _, _, _, _, _, _, _, _, _, _⟩ := h; omega⟩, (hst.dr 1)⟩
                  | exact ⟨0, rfl, ⟨fun _ => ⟨by omega, by omega, by omega, by omega, by omega, by omega, by omega, by omega, by omega, by omega, by omega, by omega⟩, fun _ => rfl⟩, (hst.dr 1)⟩
                · replace hb84 := dT hb84; refine hst.y rfl (Y.not rfl)<|hst.y rfl (Y.pB rfl rfl)<|hst.y rfl (Y.moveB rfl)<|hst.y rfl (Y.fieldAddr fa23_11 rfl)<|hst.y rfl (Y.load 0 isAgg3 rfl rfl rfl)<|Ops.ww rfl (X.retB cf51 (lin_any _ _ _ _ _ _ _ _ hst ) rfl fun b90 w90 hb90 hst => ?_); cases b90
                  · replace hb90 := dF hb90; refine hst.y rfl (Y.not rfl)<|hst.y rfl (Y.pB rfl rfl)<|Ops.done rfl<|W.condT rfl rfl<|W.sr rfl<|hst.y rfl (Y.assignI rfl)<|Ops.done rfl<|W.ret rfl<|⟨_, Rslt.one results22 rfl, ?_⟩
                    first
                    | exact ⟨1, rfl, ⟨fun h => absurd h (by decide), fun h => by obtain ⟨_, _, _, _, _, _, _, _, _, _, _, _⟩ := h; omega⟩, (hst.dr 1)⟩
                    | exact ⟨0, rfl, ⟨fun _ => ⟨by omega, by omega, by omega, by omega, by omega, by omega, by omega, by omega, by omega, by omega, by omega, by omega⟩, fun _ => rfl⟩, (hst.dr 1)⟩
                  · replace hb90 := dT hb90; refine hst.y rfl (Y.not rfl)<|hst.y rfl (Y.pB rfl rfl)<|Ops.done rfl<|W.condF rfl rfl<|W.skip rfl<|W.sr rfl<|hst.y rfl (Y.assignI rfl)<|Ops.done rfl<|W.ret rfl<|⟨_, Rslt.one results22 rfl, ?_⟩
                    first
                    | exact ⟨1, rfl, ⟨fun h => absurd h (by decide), fun h => by obtain ⟨_, _, _, _, _, _, _, _, _, _, _, _⟩ := h; omega⟩, (hst.dr 1)⟩
                    | exact ⟨0, rfl, ⟨fun _ => ⟨by omega, by omega, by omega, by omega, by omega, by omega, by omega, by omega, by omega, by omega, by omega, by omega⟩, fun _ => rfl⟩, (hst.dr 1)⟩
    refine W.region rfl<|hst.y rfl (Y.fieldAddr fa23_3 rfl)<|hst.y rfl (Y.load 0 isAgg3 rfl rfl rfl)<|Ops.ww rfl (X.retB cf51 (lin_any _ _ _ _ _ _ _ _ hst ) rfl fun b24 w24 hb24 hst => hst.y rfl (Y.moveB rfl)<|?_); cases b24
    · replace hb24 := dF hb24; refine Ops.nn rfl<|Ops.nn rfl<|Ops.nn rfl<|Ops.nn rfl<|Ops.nn rfl<|Ops.nn rfl<|hst.y rfl (Y.pB rfl rfl)<|hst.y rfl (Y.moveB rfl)<|Ops.nn rfl<|Ops.nn rfl<|Ops.nn rfl<|Ops.nn rfl<|Ops.nn rfl<|Ops.nn rfl<|hst.y rfl (Y.pB rfl rfl)<|hst.y rfl (Y.moveB rfl)<|Ops.nn rfl<|Ops.nn rfl<|Ops.nn rfl<|Ops.nn rfl<|Ops.nn rfl<|hst.y rfl (Y.pB rfl rfl)<|hst.y rfl (Y.assignB rfl)<|Ops.done rfl<|?_; exact ⟨_, ⟨rfl, trivial⟩, ⟨rfl, rfl, trivial⟩, by first | exact (decide_eq_true (by omega)).symm | exact (decide_eq_false (by omega)).symm, hst⟩
    · replace hb24 := dT hb24; refine hst.y rfl (Y.fieldAddr fa23_4 rfl)<|hst.y rfl (Y.load 0 isAgg3 rfl rfl rfl)<|hst.y rfl (Y.fieldAddr fa23_3 rfl)<|hst.y rfl (Y.load 0 isAgg3 rfl rfl rfl)<|hst.y rfl (Y.quoI rfl rfl (by omega))<|Ops.ww rfl (X.retB cf51 (lin_any _ _ _ _ _ _ _ _ hst ) rfl fun b31 w31 hb31 hst => hst.y rfl (Y.pB rfl rfl)<|hst.y rfl (Y.moveB rfl)<|?_); cases b31
      · replace hb31 := dF hb31; refine Ops.nn rfl<|Ops.nn rfl<|Ops.nn rfl<|Ops.nn rfl<|Ops.nn rfl<|Ops.nn rfl<|hst.y rfl (Y.pB rfl rfl)<|hst.y rfl (Y.moveB rfl)<|Ops.nn rfl<|Ops.nn rfl<|Ops.nn rfl<|Ops.nn rfl<|Ops.nn rfl<|hst.y rfl (Y.pB rfl rfl)<|hst.y rfl (Y.assignB rfl)<|Ops.done rfl<|?_; exact ⟨_, ⟨rfl, trivial⟩, ⟨rfl, rfl, trivial⟩, by first | exact (decide_eq_true (by omega)).symm | exact (decide_eq_false (by omega)).symm, hst⟩
      · replace hb31 := dT hb31; refine hst.y rfl (Y.fieldAddr fa23_5 rfl)<|hst.y rfl (Y.load 0 isAgg3 rfl rfl rfl)<|hst.y rfl (Y.fieldAddr fa23_3 rfl)<|hst.y rfl (Y.load 0 isAgg3 rfl rfl rfl)<|hst.y rfl (Y.quoI rfl rfl (by omega))<|Ops.ww rfl (X.retB cf51 (lin_any _ _ _ _ _ _ _ _ hst ) rfl fun b39 w39 hb39 hst => hst.y rfl (Y.pB rfl rfl)<|hst.y rfl (Y.moveB rfl)<|?_); cases b39
        · replace hb39 := dF hb39; refine Ops.nn rfl<|Ops.nn rfl<|Ops.nn rfl<|Ops.nn rfl<|Ops.nn rfl<|hst.y rfl (Y.pB rfl rfl)<|hst.y rfl (Y.assignB rfl)<|Ops.done rfl<|?_; exact ⟨_, ⟨rfl, trivial⟩, ⟨rfl, rfl, trivial⟩, by first | exact (decide_eq_true (by omega)).symm | exact (decide_eq_false (by omega)).symm, hst⟩
        · replace hb39 := dT hb39; refine hst.y rfl (Y.fieldAddr fa23_6 rfl)<|hst.y rfl (Y.load 0 isAgg3 rfl rfl rfl)<|hst.y rfl (Y.fieldAddr fa23_5 rfl)<|hst.y rfl (Y.load 0 isAgg3 rfl rfl rfl)<|Ops.ww rfl (X.retB cf51 (lin_any _ _ _ _ _ _ _ _ hst ) rfl fun b46 w46 hb46 hst => hst.y rfl (Y.pB rfl rfl)<|?_); cases b46
          · replace hb46 := dF hb46; refine hst.y rfl (Y.assignB rfl)<|Ops.done rfl<|?_; exact ⟨_, ⟨rfl, trivial⟩, ⟨rfl, rfl, trivial⟩, by first | exact (decide_eq_true (by omega)).symm | exact (decide_eq_false (by omega)).symm, hst⟩
          · replace hb46 := dT hb46; refine hst.y rfl (Y.assignB rfl)<|Ops.done rfl<|?_; exact ⟨_, ⟨rfl, trivial⟩, ⟨rfl, rfl, trivial⟩, by first | exact (decide_eq_true (by omega)).symm | exact (decide_eq_false (by omega)).symm, hst⟩
  refine W.region rfl<|hst.y rfl (Y.fieldAddr fa23_0 rfl)<|hst.y rfl (Y.load 0 isAgg3 rfl rfl rfl)<|Ops.ww rfl (X.retB cf51 (lin_any _ _ _ _ _ _ _ _ hst ) rfl fun b7 w7 hb7 hst => hst.y rfl (Y.moveB rfl)<|?_); cases b7
  · replace hb7 := dF hb7; refine Ops.nn rfl<|Ops.nn rfl<|Ops.nn rfl<|Ops.nn rfl<|Ops.nn rfl<|Ops.nn rfl<|Ops.nn rfl<|hst.y rfl (Y.pB rfl rfl)<|hst.y rfl (Y.moveB rfl)<|Ops.nn rfl<|Ops.nn rfl<|Ops.nn rfl<|hst.y rfl (Y.pB rfl rfl)<|hst.y rfl (Y.assignB rfl)<|Ops.done rfl<|?_; exact ⟨_, ⟨rfl, trivial⟩, ⟨rfl, trivial⟩, by first | exact (decide_eq_true (by omega)).symm | exact (decide_eq_false (by omega)).symm, hst⟩
  · replace hb7 := dT hb7; refine hst.y rfl (Y.fieldAddr fa23_1 rfl)<|hst.y rfl (Y.load 0 isAgg3 rfl rfl rfl)<|hst.y rfl (Y.fieldAddr fa23_0 rfl)<|hst.y rfl (Y.load 0 isAgg3 rfl rfl rfl)<|hst.y rfl (Y.subI rfl rfl (by omega))<|hst.y rfl (Y.quoI rfl rfl (by omega))<|Ops.ww rfl (X.retB cf51 (lin_any _ _ _ _ _ _ _ _ hst ) rfl fun b15 w15 hb15 hst => hst.y rfl (Y.pB rfl rfl)<|hst.y rfl (Y.moveB rfl)<|?_); cases b15
    · replace hb15 := dF hb15; refine Ops.nn rfl<|Ops.nn rfl<|Ops.nn rfl<|hst.y rfl (Y.pB rfl rfl)<|hst.y rfl (Y.assignB rfl)<|Ops.done rfl<|?_; exact ⟨_, ⟨rfl, trivial⟩, ⟨rfl, trivial⟩, by first | exact (decide_eq_true (by omega)).symm | exact (decide_eq_false (by omega)).symm, hst⟩
    · replace hb15 := dT hb15; refine hst.y rfl (Y.fieldAddr fa23_2 rfl)<|hst.y rfl (Y.load 0 isAgg3 rfl rfl rfl)<|Ops.ww rfl (X.retB cf51 (lin_any _ _ _ _ _ _ _ _ hst ) rfl fun b20 w20 hb20 hst => hst.y rfl (Y.pB rfl rfl)<|?_); cases b20
      · replace hb20 := dF hb20; refine hst.y rfl (Y.assignB rfl)<|Ops.done rfl<|?_; exact ⟨_, ⟨rfl, trivial⟩, ⟨rfl, trivial⟩, by first | exact (decide_eq_true (by omega)).symm | exact (decide_eq_false (by omega)).symm, hst⟩
      · replace hb20 := dT hb20; refine hst.y rfl (Y.assignB rfl)<|Ops.done rfl<|?_; exact ⟨_, ⟨rfl, trivial⟩, ⟨rfl, trivial⟩, by first | exact (decide_eq_true (by omega)).symm | exact (decide_eq_false (by omega)).symm, hst⟩
theorem isNaN_any (x : Int) (w0 w : World) (F0 : List Nat) (L G : List Res) (hst : St w0 F0 w L G)  :
    Calls Tryz.prog 171 #[.int .i64 x] w fun e w' => ∃ b, e = .returned (.bool b) ∧ b = decide (False) ∧ St w0 F0 w' L G := by
  refine W.func func171 rfl ntmps171 rfl<|W.sr rfl<|hst.y rfl (Y.assignB rfl)<|Ops.ds rfl rfl<|hst.y rfl (Y.moveI rfl)<|hst.y rfl (Y.moveI rfl)<|hst.yb rfl (Y.neq rfl rfl) (fun b5 hb5 => hst.y rfl (Y.assignB rfl)<|Ops.done rfl<|W.ret rfl<|⟨_, Rslt.one results171 rfl, ?_⟩); exact ⟨_, rfl, hb5.trans (by simp), hst⟩
theorem compare_any (x : Int) (y : Int) (w0 w : World) (F0 : List Nat) (L G : List Res) (hst : St w0 F0 w L G)  :
    Calls Tryz.prog 198 #[.int .i64 x, .int .i64 y] w fun e w' => e = .returned (.int .i64 (cmp3 x y)) ∧ St w0 F0 w' L G := by
  refine W.func func198 rfl ntmps198 rfl<|W.sr rfl<|hst.y rfl (Y.assignI rfl)<|Ops.ds rfl rfl<|hst.y rfl (Y.moveI rfl)<|Ops.ww rfl (X.retB cf171 (isNaN_any _ _ _ _ _ _ hst ) rfl fun b8 w8 hb8 hst => hst.y rfl (Y.assignB rfl)<|Ops.ds rfl rfl<|hst.y rfl (Y.moveI rfl)<|Ops.ww rfl (X.retB cf171 (isNaN_any _ _ _ _ _ _ hst ) rfl fun b10 w10 hb10 hst => hst.y rfl (Y.assignB rfl)<|Ops.done rfl<|W.seq rfl<|W.sr rfl<|hst.y rfl (Y.moveB rfl)<|Ops.done rfl<|?_)); cases b8
  · replace hb8 := dF hb8; refine W.condF rfl rfl<|W.skip rfl<|W.seq rfl<|W.sr rfl<|hst.y rfl (Y.moveB rfl)<|Ops.done rfl<|?_; cases b10
    · replace hb10 := dF hb10; refine W.condF rfl rfl<|W.skip rfl<|W.seq rfl<|W.sr rfl<|hst.y rfl (Y.moveI rfl)<|hst.y rfl (Y.moveI rfl)<|hst.yb rfl (Y.lss rfl rfl) (fun b16 hb16 => Ops.done rfl<|?_); cases b16
      · replace hb16 := dF hb16; refine W.condF rfl rfl<|W.skip rfl<|W.seq rfl<|W.sr rfl<|hst.y rfl (Y.moveI rfl)<|hst.y rfl (Y.moveI rfl)<|hst.yb rfl (Y.gtr rfl rfl) (fun b19 hb19 => Ops.done rfl<|?_); cases b19
        · replace hb19 := dF hb19; refine W.condF rfl rfl<|W.skip rfl<|W.sr rfl<|hst.y rfl (Y.assignI rfl)<|Ops.done rfl<|W.ret rfl<|⟨_, Rslt.one results198 rfl, ?_⟩; exact ⟨ret_int (by unfold cmp3; repeat' split <;> omega), hst⟩
        · replace hb19 := dT hb19; refine W.condT rfl rfl<|W.sr rfl<|hst.y rfl (Y.assignI rfl)<|Ops.done rfl<|W.ret rfl<|⟨_, Rslt.one results198 rfl, ?_⟩; exact ⟨ret_int (by unfold cmp3; repeat' split <;> omega), hst⟩
      · replace hb16 := dT hb16; refine W.condT rfl rfl<|W.sr rfl<|hst.y rfl (Y.assignI rfl)<|Ops.done rfl<|W.ret rfl<|⟨_, Rslt.one results198 rfl, ?_⟩; exact ⟨ret_int (by unfold cmp3; repeat' split <;> omega), hst⟩
    · replace hb10 := dT hb10; exact absurd hb10 id
  · replace hb8 := dT hb8; exact absurd hb8 id
theorem or_snoc : ∀ (l : List Int) (k : Nat), (∀ i, i < k → l.getD i 0 = 0) → k < l.length → l.getD k 0 ≠ 0 → firstNot0 l = l.getD k 0
  | [], _, _, h, _ => by simp at h
  | x :: l, 0, _, _, h => if_pos h
  | x :: l, k + 1, h0, h, hn => by
    have e : x = 0 := h0 0 (by omega); subst e; exact or_snoc l k (fun i hi => h0 (i + 1) (by omega)) (by simpa using h) hn
theorem or_none : ∀ (l : List Int), (∀ i, i < l.length → l.getD i 0 = 0) → firstNot0 l = 0
  | [], _ => rfl
  | x :: l, h => by
    have e : x = 0 := h 0 (by simp); subst e; exact or_none l (fun i hi => h (i + 1) (by simpa using hi))
theorem or_any (l : List Int) (A : Option Addr) (cap : Nat) (hl : l.length ≤ 9223372036854775807) (w0 w : World) (F0 : List Nat) (L G : List Res) (hst : St w0 F0 w L G) (hr : Rds L G (.slice A l.length cap) l.length (ivs l)) :
    Calls Tryz.prog 197 #[.slice A l.length cap] w fun e w' => e = .returned (.int .i64 (firstNot0 l)) ∧ St w0 F0 w' L G := by
  refine W.func func197 rfl ntmps197 rfl<|W.sr rfl<|hst.y rfl (Y.assignI rfl)<|Ops.ds rfl rfl<|hst.y rfl (Y.assignI rfl)<|Ops.done rfl<|W.seq rfl<|W.sr rfl<|hst.y rfl (Y.moveS rfl)<|hst.y rfl (Y.lenS underlying24 rfl)<|hst.y rfl (Y.moveI rfl)<|Ops.done rfl<|W.block rfl<|?_; refine W.loop (γ := Nat) [(3, .int _ _), (6, .slice _ _ _), (7, .int _ _)] (fun k => [(8, .int .i64 (k : Int))]) (fun k w => (k ≤ l.length ∧ ∀ i, i < k → l.getD i 0 = 0) ∧ St w0 F0 w L G) (fun k => l.length - k) (0) rfl ⟨rfl, rfl, rfl, trivial⟩ ?_ ?_ ?_
  · exact ⟨rfl, trivial⟩
  · exact ⟨⟨by omega, fun i h => by omega⟩, hst⟩
  · clear hst; rintro k j w3 ⟨⟨hk, h0⟩, hst⟩; refine W.sr rfl<|hst.yb rfl (Y.lss rfl rfl) (fun b9 hb9 => Ops.done rfl<|W.seq rfl<|?_); cases b9
    · replace hb9 := dF hb9; refine W.condF rfl rfl<|W.exit rfl<|W.sr rfl<|hst.y rfl (Y.moveI rfl)<|hst.y rfl (Y.assignI rfl)<|Ops.done rfl<|W.ret rfl<|⟨_, Rslt.one results197 rfl, ?_⟩; exact ⟨ret_int (or_none l (fun i h => h0 i (by omega))).symm, hst⟩
    · replace hb9 := dT hb9; refine W.condT rfl rfl<|W.skip rfl<|W.seq rfl<|W.block rfl<|W.seq rfl<|?_; have hk1 : k < l.length := by omega
      refine W.region rfl<|hst.y rfl (Y.indexAddr underlying24 sizeOf3 rfl rfl ((hr.sl hst).ne (by simp [ivs]; omega)) (by omega))<|?_; refine hst.y rfl (Y.loadSl isAgg3 rfl hr (ivs_get hk1))<|hst.y rfl (Y.assignI rfl)<|Ops.ds rfl rfl<|hst.y rfl (Y.moveI rfl)<|hst.y rfl (Y.moveI rfl)<|hst.yb rfl (Y.neq rfl rfl) (fun b14 hb14 => Ops.done rfl<|?_); cases b14
      · replace hb14 := dF hb14; refine W.condF rfl rfl<|W.skip rfl<|W.region rfl<|hst.y rfl (Y.addI rfl rfl (by omega))<|hst.y rfl (Y.moveI rfl)<|Ops.done rfl<|?_; refine ⟨k + 1, ⟨rfl, trivial⟩, ⟨rfl, rfl, rfl, trivial⟩, ⟨⟨by omega, fun i h => ?_⟩, hst⟩, by omega⟩; rcases (show i < k ∨ i = k by omega) with h | rfl
        · exact h0 i h
        · exact Decidable.not_not.1 hb14
      · replace hb14 := dT hb14; refine W.condT rfl rfl<|W.sr rfl<|hst.y rfl (Y.moveI rfl)<|hst.y rfl (Y.assignI rfl)<|Ops.done rfl<|W.ret rfl<|⟨_, Rslt.one results197 rfl, ?_⟩; exact ⟨ret_int (or_snoc l k h0 hk1 hb14).symm, hst⟩
theorem usable_any (p : Par) (m : M) (A : Option Addr) (cap : Nat) (w0 w : World) (F0 : List Nat) (L G : List Res) (hst : St w0 F0 w L G)  :
    Calls Tryz.prog 191 #[.agg #[.int .i64 p.N, .int .i64 p.F, .int .i64 p.D, .int .i64 p.Beat, .int .i64 p.Rho, .int .i64 p.Delay, .int .i64 p.Jitter, .int .i64 p.Eps, .int .i64 p.Mu, .int .i64 p.Hold, .int .i64 p.Pulse, .int .i64 p.Second], .agg #[.int .i64 m.kind, .int .i64 m.from_, .int .i64 m.slo, .int .i64 m.shi, .int .i64 m.held, .int .i64 m.hops, .bool m.good, .bool m.ref, .int .i64 m.elo, .int .i64 m.ehi, .int .i64 m.pulse, .int .i64 m.time, .int .i64 m.num, .slice A m.tab.length cap]] w fun e w' => ∃ b, e = .returned (.bool b) ∧ b = decide (usable p m) ∧ St w0 F0 w' L G := by
  obtain ⟨kind, from_, slo, shi, held, hops, good, ref, elo, ehi, pulse, time, num, tab⟩ := m; dsimp only; refine W.func func191 rfl ntmps191 rfl<|W.sr rfl<|Ops.ww rfl (X.boxA hst rfl fun p2 w2 hst => Ops.ww rfl (X.boxA hst rfl fun p3 w3 hst => hst.y rfl (Y.assignB rfl)<|Ops.ds rfl rfl<|hst.y rfl (Y.fieldAddr fa103_0 rfl)<|hst.y rfl (Y.load 0 isAgg3 rfl rfl rfl)<|hst.yb rfl (Y.eql rfl rfl) (fun b7 hb7 => hst.y rfl (Y.moveB rfl)<|?_))); cases b7
  · replace hb7 := dF hb7; refine Ops.nn rfl<|Ops.nn rfl<|hst.y rfl (Y.pB rfl rfl)<|hst.y rfl (Y.moveB rfl)<|Ops.nn rfl<|Ops.nn rfl<|Ops.nn rfl<|hst.y rfl (Y.pB rfl rfl)<|hst.y rfl (Y.moveB rfl)<|Ops.nn rfl<|Ops.nn rfl<|Ops.nn rfl<|Ops.nn rfl<|Ops.nn rfl<|hst.y rfl (Y.pB rfl rfl)<|hst.y rfl (Y.moveB rfl)<|Ops.nn rfl<|Ops.nn rfl<|Ops.nn rfl<|Ops.nn rfl<|hst.y rfl (Y.pB rfl rfl)<|hst.y rfl (Y.assignB rfl)<|Ops.done rfl<|W.ret rfl<|⟨_, Rslt.one results191 rfl, ?_⟩; refine ⟨_, rfl, ?_, (hst.dr 2)⟩; unfold usable
    first
    | exact (decide_eq_true ⟨by omega, rfl, by omega, by omega, by omega⟩).symm
    | exact (decide_eq_false (fun h => by dsimp only at h; obtain ⟨h1, h2, h3, h4, h5⟩ := h; first | omega | cases h2)).symm
  · replace hb7 := dT hb7; refine hst.y rfl (Y.fieldAddr fa103_5 rfl)<|hst.y rfl (Y.load 0 isAgg4 rfl rfl rfl)<|hst.y rfl (Y.pB rfl rfl)<|hst.y rfl (Y.moveB rfl)<|?_; cases good
    · skip
      refine Ops.nn rfl<|Ops.nn rfl<|Ops.nn rfl<|hst.y rfl (Y.pB rfl rfl)<|hst.y rfl (Y.moveB rfl)<|Ops.nn rfl<|Ops.nn rfl<|Ops.nn rfl<|Ops.nn rfl<|Ops.nn rfl<|hst.y rfl (Y.pB rfl rfl)<|hst.y rfl (Y.moveB rfl)<|Ops.nn rfl<|Ops.nn rfl<|Ops.nn rfl<|Ops.nn rfl<|hst.y rfl (Y.pB rfl rfl)<|hst.y rfl (Y.assignB rfl)<|Ops.done rfl<|W.ret rfl<|⟨_, Rslt.one results191 rfl, ?_⟩; refine ⟨_, rfl, ?_, (hst.dr 2)⟩; unfold usable
      first
      | exact (decide_eq_true ⟨by omega, rfl, by omega, by omega, by omega⟩).symm
      | exact (decide_eq_false (fun h => by dsimp only at h; obtain ⟨h1, h2, h3, h4, h5⟩ := h; first | omega | cases h2)).symm
    · skip
      refine hst.y rfl (Y.fieldAddr fa103_4 rfl)<|hst.y rfl (Y.load 0 isAgg3 rfl rfl rfl)<|hst.yb rfl (Y.geq rfl rfl) (fun b15 hb15 => hst.y rfl (Y.pB rfl rfl)<|hst.y rfl (Y.moveB rfl)<|?_); cases b15
      · replace hb15 := dF hb15; refine Ops.nn rfl<|Ops.nn rfl<|Ops.nn rfl<|Ops.nn rfl<|Ops.nn rfl<|hst.y rfl (Y.pB rfl rfl)<|hst.y rfl (Y.moveB rfl)<|Ops.nn rfl<|Ops.nn rfl<|Ops.nn rfl<|Ops.nn rfl<|hst.y rfl (Y.pB rfl rfl)<|hst.y rfl (Y.assignB rfl)<|Ops.done rfl<|W.ret rfl<|⟨_, Rslt.one results191 rfl, ?_⟩; refine ⟨_, rfl, ?_, (hst.dr 2)⟩; unfold usable
        first
        | exact (decide_eq_true ⟨by omega, rfl, by omega, by omega, by omega⟩).symm
        | exact (decide_eq_false (fun h => by dsimp only at h; obtain ⟨h1, h2, h3, h4, h5⟩ := h; first | omega | cases h2)).symm
      · replace hb15 := dT hb15; refine hst.y rfl (Y.fieldAddr fa103_4 rfl)<|hst.y rfl (Y.load 0 isAgg3 rfl rfl rfl)<|hst.y rfl (Y.fieldAddr fa23_2 rfl)<|hst.y rfl (Y.load 1 isAgg3 rfl rfl rfl)<|hst.yb rfl (Y.lss rfl rfl) (fun b22 hb22 => hst.y rfl (Y.pB rfl rfl)<|hst.y rfl (Y.moveB rfl)<|?_); cases b22
        · replace hb22 := dF hb22; refine Ops.nn rfl<|Ops.nn rfl<|Ops.nn rfl<|Ops.nn rfl<|hst.y rfl (Y.pB rfl rfl)<|hst.y rfl (Y.assignB rfl)<|Ops.done rfl<|W.ret rfl<|⟨_, Rslt.one results191 rfl, ?_⟩; refine ⟨_, rfl, ?_, (hst.dr 2)⟩; unfold usable
          first
          | exact (decide_eq_true ⟨by omega, rfl, by omega, by omega, by omega⟩).symm
          | exact (decide_eq_false (fun h => by dsimp only at h; obtain ⟨h1, h2, h3, h4, h5⟩ := h; first | omega | cases h2)).symm
        · replace hb22 := dT hb22; refine hst.y rfl (Y.fieldAddr fa103_2 rfl)<|hst.y rfl (Y.loadA 0 isAgg53 sizeOf53 rfl rfl rfl rfl)<|Ops.ww rfl (X.retB cf36 (empty_any _ _ _ _ _ _ _ hst ) rfl fun b27 w27 hb27 hst => ?_); cases b27
          · replace hb27 := dF hb27; refine hst.y rfl (Y.not rfl)<|hst.y rfl (Y.pB rfl rfl)<|hst.y rfl (Y.assignB rfl)<|Ops.done rfl<|W.ret rfl<|⟨_, Rslt.one results191 rfl, ?_⟩; refine ⟨_, rfl, ?_, (hst.dr 2)⟩; unfold usable
            first
            | exact (decide_eq_true ⟨by omega, rfl, by omega, by omega, by omega⟩).symm
            | exact (decide_eq_false (fun h => by dsimp only at h; obtain ⟨h1, h2, h3, h4, h5⟩ := h; first | omega | cases h2)).symm
          · replace hb27 := dT hb27; refine hst.y rfl (Y.not rfl)<|hst.y rfl (Y.pB rfl rfl)<|hst.y rfl (Y.assignB rfl)<|Ops.done rfl<|W.ret rfl<|⟨_, Rslt.one results191 rfl, ?_⟩; refine ⟨_, rfl, ?_, (hst.dr 2)⟩; unfold usable
            first
            | exact (decide_eq_true ⟨by omega, rfl, by omega, by omega, by omega⟩).symm
            | exact (decide_eq_false (fun h => by dsimp only at h; obtain ⟨h1, h2, h3, h4, h5⟩ := h; first | omega | cases h2)).symm
theorem better_any (m n : M) (A B : Option Addr) (cap cbp : Nat) (w0 w : World) (F0 : List Nat) (L G : List Res) (hst : St w0 F0 w L G)  :
    Calls Tryz.prog 192 #[.agg #[.int .i64 m.kind, .int .i64 m.from_, .int .i64 m.slo, .int .i64 m.shi, .int .i64 m.held, .int .i64 m.hops, .bool m.good, .bool m.ref, .int .i64 m.elo, .int .i64 m.ehi, .int .i64 m.pulse, .int .i64 m.time, .int .i64 m.num, .slice A m.tab.length cap], .agg #[.int .i64 n.kind, .int .i64 n.from_, .int .i64 n.slo, .int .i64 n.shi, .int .i64 n.held, .int .i64 n.hops, .bool n.good, .bool n.ref, .int .i64 n.elo, .int .i64 n.ehi, .int .i64 n.pulse, .int .i64 n.time, .int .i64 n.num, .slice B n.tab.length cbp]] w fun e w' => e = .returned (.int .i64 (better m n)) ∧ St w0 F0 w' L G := by
  refine W.func func192 rfl ntmps192 rfl<|W.sr rfl<|Ops.ww rfl (X.boxA hst rfl fun p2 w2 hst => Ops.ww rfl (X.boxA hst rfl fun p3 w3 hst => hst.y rfl (Y.assignI rfl)<|Ops.done rfl<|W.seq rfl<|W.drawn rfl (by kernel_rfl) (Ctx _ _ (_) (_)) [] (.op 0 0 (.op 1 0 (.op 2 0 (.op 3 0 (.op 5 0 (.op 6 0 (.op 7 0 (.op 8 0 (.op 10 0 (.op 11 0 (.op 12 0 (.op 13 0 (.op 4 1 (.op 9 1 (.op 14 1 (.op 15 1 (.op 16 1 (.op 17 0 .nil)))))))))))))))))) rfl (by kernel_rfl) hst.drew.ctx<|?_)); replace hst := hst.drew; generalize World.drew _ = wd at hst ⊢; refine hst.z rfl (Y.fieldAddr fa103_4 rfl)<|hst.z rfl (Y.load 1 isAgg3 rfl rfl rfl)<|hst.z rfl (Y.fieldAddr fa103_4 rfl)<|hst.z rfl (Y.load 0 isAgg3 rfl rfl rfl)<|hst.z rfl (Y.fieldAddr fa103_3 rfl)<|hst.z rfl (Y.load 1 isAgg3 rfl rfl rfl)<|hst.z rfl (Y.fieldAddr fa103_3 rfl)<|hst.z rfl (Y.load 0 isAgg3 rfl rfl rfl)<|hst.z rfl (Y.fieldAddr fa103_1 rfl)<|hst.z rfl (Y.load 1 isAgg3 rfl rfl rfl)<|hst.z rfl (Y.fieldAddr fa103_1 rfl)<|hst.z rfl (Y.load 0 isAgg3 rfl rfl rfl)<|Drw.ww rfl (X.ret cf198 (compare_any _ _ _ _ _ _ _ hst ) rfl fun w9 hst => ⟨hst.ctx, Drw.ww rfl (X.ret cf198 (compare_any _ _ _ _ _ _ _ hst ) rfl fun w14 hst => ⟨hst.ctx, Drw.ww rfl (X.ret cf198 (compare_any _ _ _ _ _ _ _ hst ) rfl fun w19 hst => ⟨hst.ctx, Drw.ww rfl (X.lits hst underlying24 sizeOf3 zeroValue3 (by rfl) (by rfl) (by rfl) [.int _ _, .int _ _, .int _ _] (by rfl) (by rfl) fun p20 w20 hst => ⟨(hst.cx 1), ?_⟩)⟩)⟩)⟩); refine Drw.ww rfl (X.ret cf197 (or_any [cmp3 m.hops n.hops, cmp3 m.held n.held, cmp3 m.from_ n.from_] _ _ (by simp) _ _ _ _ _ hst (Rds.ofCells 0 rfl 3 3)) rfl fun w21 hst => ⟨(hst.cx 1), ?_⟩); refine Drw.q rfl (hst.cx 1) (Y.assignI rfl)<|Drw.done<|W.ret rfl<|⟨_, Rslt.one results192 rfl, ?_⟩; exact ⟨rfl, (hst.dr 3)⟩
theorem of_health (p : Par) (s : Stt) (A : Option Addr) (cap : Nat) (w0 w : World) (F0 : List Nat) (L G : List Res) (hst : St w0 F0 w L G)  :
    Calls Tryz.prog 50 #[.agg #[.int .i64 p.N, .int .i64 p.F, .int .i64 p.D, .int .i64 p.Beat, .int .i64 p.Rho, .int .i64 p.Delay, .int .i64 p.Jitter, .int .i64 p.Eps, .int .i64 p.Mu, .int .i64 p.Hold, .int .i64 p.Pulse, .int .i64 p.Second], .agg #[.int .i64 s.lo, .int .i64 s.hi, .int .i64 s.time, .bool s.set, .int .i64 s.held, .int .i64 s.hops, .bool s.good, .slice A s.tab.length cap, .int .i64 s.st, .int .i64 s.sn, .int .i64 s.life]] w fun e w' => e = .returned (.int .i64 (healthOf p s)) ∧ St w0 F0 w' L G := by
  obtain ⟨lo, hi, time, set, held, hops, good, tab, st, sn, life⟩ := s; dsimp only; refine W.func func50 rfl ntmps50 rfl<|W.sr rfl<|Ops.ww rfl (X.boxA hst rfl fun p2 w2 hst => Ops.ww rfl (X.boxA hst rfl fun p3 w3 hst => hst.y rfl (Y.assignI rfl)<|Ops.done rfl<|W.seq rfl<|W.block rfl<|W.sr rfl<|hst.y rfl (Y.fieldAddr fa57_5 rfl)<|hst.y rfl (Y.load 0 isAgg4 rfl rfl rfl)<|?_)); cases good
  · skip
    refine hst.y rfl (Y.not rfl)<|hst.y rfl (Y.moveB rfl)<|Ops.nn rfl<|Ops.nn rfl<|Ops.nn rfl<|hst.y rfl (Y.pB rfl rfl)<|hst.y rfl (Y.moveB rfl)<|Ops.nn rfl<|Ops.nn rfl<|Ops.nn rfl<|Ops.nn rfl<|Ops.nn rfl<|hst.y rfl (Y.pB rfl rfl)<|hst.y rfl (Y.assignB rfl)<|Ops.done rfl<|W.condT rfl rfl<|W.sr rfl<|hst.y rfl (Y.assignI rfl)<|Ops.done rfl<|W.ret rfl<|⟨_, Rslt.one results50 rfl, ?_⟩; exact ⟨ret_int (by unfold healthOf; dsimp only; first | rw [if_pos (by first | exact .inl rfl | exact .inr (.inl rfl) | exact .inr (.inr (by omega)))] | rw [if_neg (by rintro (h | h | h); cases h; cases h; omega), if_pos (by omega)] | rw [if_neg (by rintro (h | h | h); cases h; cases h; omega), if_neg (by omega)]), (hst.dr 2)⟩
  · skip
    refine hst.y rfl (Y.not rfl)<|hst.y rfl (Y.moveB rfl)<|hst.y rfl (Y.fieldAddr fa57_2 rfl)<|hst.y rfl (Y.load 0 isAgg4 rfl rfl rfl)<|?_; cases set
    · skip
      refine hst.y rfl (Y.not rfl)<|hst.y rfl (Y.pB rfl rfl)<|hst.y rfl (Y.moveB rfl)<|Ops.nn rfl<|Ops.nn rfl<|Ops.nn rfl<|Ops.nn rfl<|Ops.nn rfl<|hst.y rfl (Y.pB rfl rfl)<|hst.y rfl (Y.assignB rfl)<|Ops.done rfl<|W.condT rfl rfl<|W.sr rfl<|hst.y rfl (Y.assignI rfl)<|Ops.done rfl<|W.ret rfl<|⟨_, Rslt.one results50 rfl, ?_⟩; exact ⟨ret_int (by unfold healthOf; dsimp only; first | rw [if_pos (by first | exact .inl rfl | exact .inr (.inl rfl) | exact .inr (.inr (by omega)))] | rw [if_neg (by rintro (h | h | h); cases h; cases h; omega), if_pos (by omega)] | rw [if_neg (by rintro (h | h | h); cases h; cases h; omega), if_neg (by omega)]), (hst.dr 2)⟩
    · skip
      refine hst.y rfl (Y.not rfl)<|hst.y rfl (Y.pB rfl rfl)<|hst.y rfl (Y.moveB rfl)<|hst.y rfl (Y.fieldAddr fa57_4 rfl)<|hst.y rfl (Y.load 0 isAgg3 rfl rfl rfl)<|hst.y rfl (Y.fieldAddr fa23_2 rfl)<|hst.y rfl (Y.load 1 isAgg3 rfl rfl rfl)<|hst.yb rfl (Y.gtr rfl rfl) (fun b19 hb19 => hst.y rfl (Y.pB rfl rfl)<|hst.y rfl (Y.assignB rfl)<|Ops.done rfl<|?_); cases b19
      · replace hb19 := dF hb19; refine W.condF rfl rfl<|W.sr rfl<|hst.y rfl (Y.fieldAddr fa57_3 rfl)<|hst.y rfl (Y.load 0 isAgg3 rfl rfl rfl)<|hst.y rfl (Y.fieldAddr fa23_9 rfl)<|hst.y rfl (Y.load 1 isAgg3 rfl rfl rfl)<|hst.yb rfl (Y.gtr rfl rfl) (fun b26 hb26 => hst.y rfl (Y.assignB rfl)<|Ops.done rfl<|?_); cases b26
        · replace hb26 := dF hb26; refine W.condF rfl rfl<|W.skip rfl<|W.sr rfl<|hst.y rfl (Y.assignI rfl)<|Ops.done rfl<|W.ret rfl<|⟨_, Rslt.one results50 rfl, ?_⟩; exact ⟨ret_int (by unfold healthOf; dsimp only; first | rw [if_pos (by first | exact .inl rfl | exact .inr (.inl rfl) | exact .inr (.inr (by omega)))] | rw [if_neg (by rintro (h | h | h); cases h; cases h; omega), if_pos (by omega)] | rw [if_neg (by rintro (h | h | h); cases h; cases h; omega), if_neg (by omega)]), (hst.dr 2)⟩
        · replace hb26 := dT hb26; refine W.condT rfl rfl<|W.sr rfl<|hst.y rfl (Y.assignI rfl)<|Ops.done rfl<|W.ret rfl<|⟨_, Rslt.one results50 rfl, ?_⟩; exact ⟨ret_int (by unfold healthOf; dsimp only; first | rw [if_pos (by first | exact .inl rfl | exact .inr (.inl rfl) | exact .inr (.inr (by omega)))] | rw [if_neg (by rintro (h | h | h); cases h; cases h; omega), if_pos (by omega)] | rw [if_neg (by rintro (h | h | h); cases h; cases h; omega), if_neg (by omega)]), (hst.dr 2)⟩
      · replace hb19 := dT hb19; refine W.condT rfl rfl<|W.sr rfl<|hst.y rfl (Y.assignI rfl)<|Ops.done rfl<|W.ret rfl<|⟨_, Rslt.one results50 rfl, ?_⟩; exact ⟨ret_int (by unfold healthOf; dsimp only; first | rw [if_pos (by first | exact .inl rfl | exact .inr (.inl rfl) | exact .inr (.inr (by omega)))] | rw [if_neg (by rintro (h | h | h); cases h; cases h; omega), if_pos (by omega)] | rw [if_neg (by rintro (h | h | h); cases h; cases h; omega), if_neg (by omega)]), (hst.dr 2)⟩
theorem cf52 : CF 52 := fun _ _ => by simp [go_sem]
theorem cf74 : CF 74 := fun _ _ => by simp [go_sem]
theorem cf91 : CF 91 := fun _ _ => by simp [go_sem]
theorem cf93 : CF 93 := fun _ _ => by simp [go_sem]
theorem mask32 {x : Int} (h : 0 ≤ x ∧ x ≤ 2305843009213693952) : IntKind.u64.wrap (BitVec.ofInt IntKind.u64.bits x &&& BitVec.ofInt IntKind.u64.bits 4294967295).toNat = x % 4294967296 := by
  obtain ⟨n, rfl⟩ := Int.eq_ofNat_of_zero_le h.1; show IntKind.u64.wrap ((BitVec.ofInt 64 ((n : Nat) : Int) &&& BitVec.ofInt 64 ((4294967295 : Nat) : Int)).toNat : Int) = _; rw [BitVec.ofInt_natCast, BitVec.ofInt_natCast, BitVec.toNat_and, BitVec.toNat_ofNat, BitVec.toNat_ofNat, Nat.mod_eq_of_lt (by omega), Nat.mod_eq_of_lt (by omega), Nat.and_two_pow_sub_one_eq_mod n 32, IntKind.wrap_u64]; omega
theorem shr32 (x : Int) : x.fdiv (2 ^ (min ((32 : Int)).toNat IntKind.u64.bits)) = x / 4294967296 := by
  show x.fdiv 4294967296 = _; rw [Int.fdiv_eq_ediv_of_nonneg _ (by decide)]
theorem mul64_one (x : Int) (w0 w : World) (F0 : List Nat) (L G : List Res) (hst : St w0 F0 w L G) (hx : 0 ≤ x ∧ x ≤ 2305843009213693952) :
    Calls Tryz.prog 91 #[.int .u64 x, .int .u64 1] w fun e w' => e = .returned (.tuple #[.int .u64 0, .int .u64 x]) ∧ St w0 F0 w' L G := by
  refine W.func func91 rfl ntmps91 rfl<|W.sr rfl<|hst.y rfl (Y.assignI rfl)<|hst.y rfl (Y.assignI rfl)<|Ops.ds rfl rfl<|hst.y rfl (Y.moveI rfl)<|hst.y rfl (Y.cast (Y.and rfl rfl) (v' := .int .u64 (x % 4294967296)) (congrArg (Value.int .u64) (mask32 hx)))<|hst.y rfl (Y.assignI rfl)<|Ops.ds rfl rfl<|hst.y rfl (Y.moveI rfl)<|hst.y rfl (Y.cast (Y.shr rfl rfl (by decide)) (v' := .int .u64 (x / 4294967296)) (congrArg (Value.int .u64) (shr32 x)))<|?_; refine hst.y rfl (Y.assignI rfl)<|Ops.ds rfl rfl<|hst.y rfl (Y.moveI rfl)<|hst.y rfl (Y.cast (Y.and rfl rfl) (v' := .int .u64 (1)) (congrArg (Value.int .u64) (mask32 (x := 1) (by decide))))<|?_; refine hst.y rfl (Y.assignI rfl)<|Ops.ds rfl rfl<|hst.y rfl (Y.moveI rfl)<|hst.y rfl (Y.cast (Y.shr rfl rfl (by decide)) (v' := .int .u64 (0)) (congrArg (Value.int .u64) (shr32 1)))<|?_; refine hst.y rfl (Y.assignI rfl)<|Ops.ds rfl rfl<|hst.y rfl (Y.moveI rfl)<|hst.y rfl (Y.moveI rfl)<|hst.y rfl (Y.cast (Y.mul rfl rfl) (v' := .int .u64 (x % 4294967296)) (congrArg (Value.int .u64) (by rw [IntKind.wrap_u64]; omega)))<|?_; refine hst.y rfl (Y.assignI rfl)<|Ops.ds rfl rfl<|hst.y rfl (Y.moveI rfl)<|hst.y rfl (Y.moveI rfl)<|hst.y rfl (Y.cast (Y.mul rfl rfl) (v' := .int .u64 (x / 4294967296)) (congrArg (Value.int .u64) (by rw [IntKind.wrap_u64]; omega)))<|?_; refine hst.y rfl (Y.moveI rfl)<|hst.y rfl (Y.cast (Y.shr rfl rfl (by decide)) (v' := .int .u64 (0)) (congrArg (Value.int .u64) ((shr32 _).trans (by omega))))<|?_; refine hst.y rfl (Y.cast (Y.add rfl rfl) (v' := .int .u64 (x / 4294967296)) (congrArg (Value.int .u64) (by rw [IntKind.wrap_u64]; omega))) ?_; refine hst.y rfl (Y.assignI rfl)<|Ops.ds rfl rfl<|hst.y rfl (Y.moveI rfl)<|hst.y rfl (Y.cast (Y.and rfl rfl) (v' := .int .u64 (x / 4294967296)) (congrArg (Value.int .u64) ((mask32 (by omega)).trans (by omega))))<|hst.y rfl (Y.assignI rfl)<|Ops.ds rfl rfl<|hst.y rfl (Y.moveI rfl)<|hst.y rfl (Y.cast (Y.shr rfl rfl (by decide)) (v' := .int .u64 (0)) (congrArg (Value.int .u64) ((shr32 _).trans (by omega))))<|?_; refine hst.y rfl (Y.assignI rfl)<|Ops.ds rfl rfl<|hst.y rfl (Y.moveI rfl)<|hst.y rfl (Y.moveI rfl)<|hst.y rfl (Y.moveI rfl)<|hst.y rfl (Y.cast (Y.mul rfl rfl) (v' := .int .u64 (0)) (congrArg (Value.int .u64) (by rw [IntKind.wrap_u64]; omega)))<|?_; refine hst.y rfl (Y.cast (Y.add rfl rfl) (v' := .int .u64 (x / 4294967296)) (congrArg (Value.int .u64) (by rw [IntKind.wrap_u64]; omega))) ?_; refine hst.y rfl (Y.assignI rfl)<|Ops.ds rfl rfl<|hst.y rfl (Y.moveI rfl)<|hst.y rfl (Y.moveI rfl)<|hst.y rfl (Y.cast (Y.mul rfl rfl) (v' := .int .u64 (0)) (congrArg (Value.int .u64) (by rw [IntKind.wrap_u64]; omega)))<|?_; refine hst.y rfl (Y.moveI rfl)<|hst.y rfl (Y.cast (Y.add rfl rfl) (v' := .int .u64 (0)) (congrArg (Value.int .u64) (by rw [IntKind.wrap_u64]; omega)))<|?_; refine hst.y rfl (Y.moveI rfl)<|hst.y rfl (Y.cast (Y.shr rfl rfl (by decide)) (v' := .int .u64 (0)) (congrArg (Value.int .u64) ((shr32 _).trans (by omega))))<|?_; refine hst.y rfl (Y.cast (Y.add rfl rfl) (v' := .int .u64 (0)) (congrArg (Value.int .u64) (by rw [IntKind.wrap_u64]; omega))) ?_; refine hst.y rfl (Y.assignI rfl)<|Ops.ds rfl rfl<|hst.y rfl (Y.moveI rfl)<|hst.y rfl (Y.moveI rfl)<|hst.y rfl (Y.cast (Y.mul rfl rfl) (v' := .int .u64 (x)) (congrArg (Value.int .u64) (by rw [IntKind.wrap_u64]; omega)))<|?_; refine hst.y rfl (Y.assignI rfl)<|Ops.done rfl<|W.ret rfl<|⟨_, Rslt.two results91 rfl rfl, ?_⟩; exact ⟨rfl, hst⟩
theorem quo64 {x c : Int} (hx : 0 ≤ x ∧ x ≤ 2305843009213693952) (hc : 1 ≤ c) : IntKind.u64.wrap (x.tdiv c) = x / c := by
  have h1 := Int.ediv_nonneg (a := x) (b := c) hx.1 (by omega); have h2 := Int.ediv_le_self c hx.1; rw [Int.tdiv_eq_ediv_of_nonneg hx.1, IntKind.wrap_u64]; omega
theorem div64_low (x : Int) (c : Int) (w0 w : World) (F0 : List Nat) (L G : List Res) (hst : St w0 F0 w L G) (hx : 0 ≤ x ∧ x ≤ 2305843009213693952) (hc : 1 ≤ c ∧ c ≤ 2305843009213693952) :
    Calls Tryz.prog 93 #[.int .u64 0, .int .u64 x, .int .u64 c] w fun e w' => e = .returned (.tuple #[.int .u64 (x / c), .int .u64 (x % c)]) ∧ St w0 F0 w' L G := by
  refine W.func func93 rfl ntmps93 rfl<|W.sr rfl<|hst.y rfl (Y.assignI rfl)<|hst.y rfl (Y.assignI rfl)<|Ops.done rfl<|W.seq rfl<|W.sr rfl<|hst.y rfl (Y.moveI rfl)<|hst.yb rfl (Y.eql rfl rfl) (fun b20 hb20 => Ops.done rfl<|?_); cases b20
  · replace hb20 := dF hb20; refine W.condF rfl rfl<|W.skip rfl<|W.seq rfl<|W.sr rfl<|hst.y rfl (Y.moveI rfl)<|hst.y rfl (Y.moveI rfl)<|hst.yb rfl (Y.leq rfl rfl) (fun b24 hb24 => Ops.done rfl<|?_); cases b24
    · replace hb24 := dF hb24; refine W.condF rfl rfl<|W.skip rfl<|W.seq rfl<|W.sr rfl<|hst.y rfl (Y.moveI rfl)<|hst.yb rfl (Y.eql rfl rfl) (fun b27 hb27 => Ops.done rfl<|?_); cases b27
      · replace hb27 := dF hb27; exfalso; omega
      · replace hb27 := dT hb27; refine W.condT rfl rfl<|W.seq rfl<|W.drawn rfl (by kernel_rfl) (Ctx _ _ (_) (_)) [] (.op 0 0 (.op 1 0 (.op 2 0 (.op 3 0 (.op 4 0 (.op 5 0 (.op 6 0 (.op 7 0 .nil)))))))) rfl (by kernel_rfl) hst.drew.ctx<|?_; replace hst := hst.drew; generalize World.drew _ = wd at hst ⊢; refine hst.z rfl (Y.moveI rfl)<|hst.z rfl (Y.moveI rfl)<|hst.z rfl (Y.cast (Y.quo rfl rfl (by omega)) (v' := .int .u64 (x / c)) (congrArg (Value.int .u64) (quo64 hx hc.1)))<|hst.z rfl (Y.moveI rfl)<|hst.z rfl (Y.moveI rfl)<|hst.z rfl (Y.remI rfl rfl (by omega))<|hst.z rfl (Y.assignI rfl)<|hst.z rfl (Y.assignI rfl)<|Drw.done<|W.ret rfl<|⟨_, Rslt.two results93 rfl rfl, ?_⟩; exact ⟨rfl, hst⟩
    · replace hb24 := dT hb24; exfalso; omega
  · replace hb20 := dT hb20; exfalso; omega
theorem up_div {a c : Int} (ha : 0 ≤ a) (hc : 1 ≤ c) : (0 < a % c → a / c + 1 = (a + c - 1) / c) ∧ (¬ 0 < a % c → a / c = (a + c - 1) / c) := by
  have h1 := Int.mul_ediv_add_emod a c; have h2 := Int.emod_lt_of_pos a (b := c) (by omega); have h3 := Int.emod_nonneg a (b := c) (by omega); constructor
  · intro h; have h4 : c * (a / c + 1) = c * (a / c) + c := by rw [Int.mul_add, Int.mul_one]
    obtain ⟨e1, _⟩ := (Int.ediv_emod_unique (a := a + c - 1) (b := c) (r := a % c - 1) (q := a / c + 1) (by omega)).2 ⟨by omega, by omega, by omega⟩; exact e1.symm
  · intro h; obtain ⟨e1, _⟩ := (Int.ediv_emod_unique (a := a + c - 1) (b := c) (r := a % c + c - 1) (q := a / c) (by omega)).2 ⟨by omega, by omega, by omega⟩; exact e1.symm
theorem neg_id {a : Int} (h : 0 ≤ a ∧ a ≤ 2305843009213693952) : neg a = -a := by unfold neg; rw [clip_id (by omega)]
theorem mag_neg {a : Int} (h : 0 ≤ a ∧ a ≤ 2305843009213693952) : mag (neg a) = a := by
  rw [neg_id h]; unfold mag neg; split
  · rw [clip_id (by omega)]; omega
  · rw [clip_id (by omega)]; omega
theorem mag_one : mag 1 = 1 := by unfold mag; rw [if_neg (by decide), clip_id (by decide)]
theorem mulDiv_any (a : Int) (c : Int) (w0 w : World) (F0 : List Nat) (L G : List Res) (hst : St w0 F0 w L G) (ha : 0 ≤ a ∧ a ≤ 2305843009213693952) (hc : 1 ≤ c ∧ c ≤ 2305843009213693952) :
    Calls Tryz.prog 74 #[.int .i64 (neg a), .int .i64 1, .int .i64 c] w fun e w' => e = .returned (.int .i64 (- ((a + c - 1) / c))) ∧ St w0 F0 w' L G := by
  have hng := neg_id ha; have hx := mag_neg ha; have hy := mag_one; have hz : max (clip c) 1 = c := by rw [clip_id (by omega)]; omega
  have hq := up_div ha.1 hc.1; have hq0 := Int.ediv_nonneg (a := a) (b := c) ha.1 (by omega); have hq1 := Int.ediv_le_self c ha.1; have hr0 := Int.emod_nonneg a (b := c) (by omega); have hr1 := Int.emod_lt_of_pos a (b := c) (by omega); have h0 : a = 0 → a / c = 0 ∧ a % c = 0 := by rintro rfl; simp
  have hm1 : a / c + a % c ≤ a := by
    have h1 := Int.mul_ediv_add_emod a c; have h2 : 1 * (a / c) ≤ c * (a / c) := Int.mul_le_mul_of_nonneg_right hc.1 hq0; omega
  refine W.func func74 rfl ntmps74 rfl<|W.sr rfl<|hst.y rfl (Y.assignI rfl)<|Ops.ds rfl rfl<|hst.y rfl (Y.moveI rfl)<|Ops.ww rfl (X.ret cf67 (mag_any _ _ _ _ _ _ hst ) rfl fun w16 hst => hst.y rfl (Y.moveI rfl)<|Ops.ww rfl (X.ret cf67 (mag_any _ _ _ _ _ _ hst ) rfl fun w18 hst => hst.y rfl (Y.moveI rfl)<|Ops.ww rfl (X.ret cf38 (clip_any _ _ _ _ _ _ hst ) rfl fun w20 hst => hst.y rfl (Y.max2 rfl rfl)<|hst.y rfl (Y.assignI rfl)<|hst.y rfl (Y.assignI rfl)<|hst.y rfl (Y.assignI rfl)<|Ops.ds rfl rfl<|hst.y rfl (Y.moveI rfl)<|hst.y rfl (Y.cast (Y.conv underlying192 underlying3 rfl) (v' := .int .u64 (a)) (congrArg (Value.int .u64) (by rw [IntKind.wrap_u64]; omega)))<|?_))); refine hst.y rfl (Y.moveI rfl)<|hst.y rfl (Y.cast (Y.conv underlying192 underlying3 rfl) (v' := .int .u64 (1)) (congrArg (Value.int .u64) (by rw [IntKind.wrap_u64]; omega)))<|?_; refine Ops.ww rfl (X.ret cf91 (mul64_one _ _ _ _ _ _ hst (by omega)) rfl fun w27 hst => hst.y rfl (Y.moveU rfl)<|hst.y rfl (Y.extract rfl rfl)<|hst.y rfl (Y.extract rfl rfl)<|hst.y rfl (Y.assignI rfl)<|hst.y rfl (Y.assignI rfl)<|Ops.done rfl<|W.seq rfl<|?_); refine W.cut [(9, .int _ _), (10, .int _ _), (11, .int _ _)] (fun b12 : Bool => [(12, .bool b12)]) (fun b12 w => b12 = decide (0 < a) ∧ St w0 F0 w L G) ⟨rfl, rfl, rfl, trivial⟩ ?_ ?_
  rotate_left
  · clear hst; rintro b12 j w3 ⟨hb12, hst⟩; refine W.seq rfl<|W.sr rfl<|hst.y rfl (Y.moveI rfl)<|hst.y rfl (Y.moveI rfl)<|hst.y rfl (Y.cast (Y.conv underlying192 underlying3 rfl) (v' := .int .u64 (c)) (congrArg (Value.int .u64) (by rw [IntKind.wrap_u64]; omega)))<|?_; refine hst.yb rfl (Y.geq rfl rfl) (fun b46 hb46 => Ops.done rfl<|?_); cases b46
    · replace hb46 := dF hb46; refine W.condF rfl rfl<|W.skip rfl<|W.sr rfl<|hst.y rfl (Y.moveI rfl)<|hst.y rfl (Y.moveI rfl)<|hst.y rfl (Y.moveI rfl)<|hst.y rfl (Y.cast (Y.conv underlying192 underlying3 rfl) (v' := .int .u64 (c)) (congrArg (Value.int .u64) (by rw [IntKind.wrap_u64]; omega)))<|?_; refine Ops.ww rfl (X.ret cf93 (div64_low _ _ _ _ _ _ _ hst (by omega) (by omega)) rfl fun w54 hst => hst.y rfl (Y.moveU rfl)<|hst.y rfl (Y.extract rfl rfl)<|hst.y rfl (Y.extract rfl rfl)<|hst.y rfl (Y.assignI rfl)<|hst.y rfl (Y.assignI rfl)<|Ops.done rfl<|W.seq rfl<|W.sr rfl<|hst.y rfl (Y.moveB rfl)<|hst.y rfl (Y.moveB rfl)<|?_); cases b12
      · replace hb12 := dF hb12; refine Ops.nn rfl<|Ops.nn rfl<|hst.y rfl (Y.pB rfl rfl)<|hst.y rfl (Y.moveB rfl)<|Ops.nn rfl<|Ops.nn rfl<|hst.y rfl (Y.pB rfl rfl)<|Ops.done rfl<|?_; refine W.cut [(12, .bool _)] (fun _ : Unit => [(13, .int .u64 ((a + c - 1) / c))]) (fun _ w => St w0 F0 w L G) ⟨rfl, trivial⟩ ?_ ?_
        rotate_left
        · clear hst; rintro _ j w7 hst; refine W.seq rfl<|W.sr rfl<|hst.y rfl (Y.moveI rfl)<|hst.yb rfl (Y.gtr rfl rfl) (fun b69 hb69 => Ops.done rfl<|?_); cases b69
          · replace hb69 := dF hb69; refine W.condF rfl rfl<|W.skip rfl<|W.seq rfl<|W.sr rfl<|hst.y rfl (Y.moveB rfl)<|Ops.done rfl<|W.condF rfl rfl<|W.skip rfl<|W.sr rfl<|hst.y rfl (Y.moveI rfl)<|hst.y rfl (Y.cast (Y.conv underlying3 underlying192 rfl) (v' := .int .i64 ((a + c - 1) / c)) (congrArg (Value.int .i64) (IntWalk.i64_in _ (by omega))))<|hst.y rfl (Y.assignI rfl)<|Ops.done rfl<|W.ret rfl<|⟨_, Rslt.one results74 rfl, ?_⟩; exact ⟨ret_int (by omega), hst⟩
          · replace hb69 := dT hb69; exfalso; omega
        refine W.condF rfl rfl<|W.skip rfl<|?_
        first | exact ⟨(), ⟨congrArg (Value.int .u64) (by omega), trivial⟩, ⟨rfl, trivial⟩, hst⟩ | (exfalso; omega)
      · replace hb12 := dT hb12; refine hst.y rfl (Y.moveI rfl)<|hst.yb rfl (Y.gtr rfl rfl) (fun b60 hb60 => hst.y rfl (Y.pB rfl rfl)<|hst.y rfl (Y.moveB rfl)<|?_); cases b60
        · replace hb60 := dF hb60; refine Ops.nn rfl<|Ops.nn rfl<|hst.y rfl (Y.pB rfl rfl)<|Ops.done rfl<|?_; refine W.cut [(12, .bool _)] (fun _ : Unit => [(13, .int .u64 ((a + c - 1) / c))]) (fun _ w => St w0 F0 w L G) ⟨rfl, trivial⟩ ?_ ?_
          rotate_left
          · clear hst; rintro _ j w7 hst; refine W.seq rfl<|W.sr rfl<|hst.y rfl (Y.moveI rfl)<|hst.yb rfl (Y.gtr rfl rfl) (fun b69 hb69 => Ops.done rfl<|?_); cases b69
            · replace hb69 := dF hb69; refine W.condF rfl rfl<|W.skip rfl<|W.seq rfl<|W.sr rfl<|hst.y rfl (Y.moveB rfl)<|Ops.done rfl<|W.condT rfl rfl<|W.sr rfl<|hst.y rfl (Y.moveI rfl)<|hst.y rfl (Y.cast (Y.conv underlying3 underlying192 rfl) (v' := .int .i64 ((a + c - 1) / c)) (congrArg (Value.int .i64) (IntWalk.i64_in _ (by omega))))<|hst.y rfl (Y.negI rfl (by omega))<|hst.y rfl (Y.assignI rfl)<|Ops.done rfl<|W.ret rfl<|⟨_, Rslt.one results74 rfl, ?_⟩; exact ⟨ret_int (by omega), hst⟩
            · replace hb69 := dT hb69; exfalso; omega
          refine W.condF rfl rfl<|W.skip rfl<|?_
          first | exact ⟨(), ⟨congrArg (Value.int .u64) (by omega), trivial⟩, ⟨rfl, trivial⟩, hst⟩ | (exfalso; omega)
        · replace hb60 := dT hb60; refine hst.y rfl (Y.moveI rfl)<|hst.yb rfl (Y.lss rfl rfl) (fun b64 hb64 => hst.y rfl (Y.pB rfl rfl)<|Ops.done rfl<|?_); refine W.cut [(12, .bool _)] (fun _ : Unit => [(13, .int .u64 ((a + c - 1) / c))]) (fun _ w => St w0 F0 w L G) ⟨rfl, trivial⟩ ?_ ?_
          rotate_left
          · clear hst; rintro _ j w7 hst; refine W.seq rfl<|W.sr rfl<|hst.y rfl (Y.moveI rfl)<|hst.yb rfl (Y.gtr rfl rfl) (fun b69 hb69 => Ops.done rfl<|?_); cases b69
            · replace hb69 := dF hb69; refine W.condF rfl rfl<|W.skip rfl<|W.seq rfl<|W.sr rfl<|hst.y rfl (Y.moveB rfl)<|Ops.done rfl<|W.condT rfl rfl<|W.sr rfl<|hst.y rfl (Y.moveI rfl)<|hst.y rfl (Y.cast (Y.conv underlying3 underlying192 rfl) (v' := .int .i64 ((a + c - 1) / c)) (congrArg (Value.int .i64) (IntWalk.i64_in _ (by omega))))<|hst.y rfl (Y.negI rfl (by omega))<|hst.y rfl (Y.assignI rfl)<|Ops.done rfl<|W.ret rfl<|⟨_, Rslt.one results74 rfl, ?_⟩; exact ⟨ret_int (by omega), hst⟩
            · replace hb69 := dT hb69; exfalso; omega
          cases b64
          · replace hb64 := dF hb64; refine W.condF rfl rfl<|W.skip rfl<|?_
            first | exact ⟨(), ⟨congrArg (Value.int .u64) (by omega), trivial⟩, ⟨rfl, trivial⟩, hst⟩ | (exfalso; omega)
          · replace hb64 := dT hb64; refine W.condT rfl rfl<|W.region rfl<|hst.y rfl (Y.moveI rfl)<|hst.y rfl (Y.cast (Y.add rfl rfl) (v' := .int .u64 ((a + c - 1) / c)) (congrArg (Value.int .u64) (by rw [IntKind.wrap_u64]; omega)))<|?_; refine hst.y rfl (Y.assignI rfl)<|Ops.done rfl<|?_
            first | exact ⟨(), ⟨congrArg (Value.int .u64) (by omega), trivial⟩, ⟨rfl, trivial⟩, hst⟩ | (exfalso; omega)
    · replace hb46 := dT hb46; exfalso; omega
  refine W.region rfl<|hst.y rfl (Y.moveI rfl)<|hst.yb rfl (Y.lss rfl rfl) (fun b31 hb31 => ?_); cases b31
  · replace hb31 := dF hb31; refine hst.y rfl (Y.moveI rfl)<|hst.yb rfl (Y.lss rfl rfl) (fun b33 hb33 => ?_); cases b33
    · replace hb33 := dF hb33; refine hst.yb rfl (Y.neB underlying4 rfl rfl) (fun b34 hb34 => hst.y rfl (Y.moveB rfl)<|?_); cases b34
      · replace hb34 := dF hb34; refine Ops.nn rfl<|Ops.nn rfl<|hst.y rfl (Y.pB rfl rfl)<|hst.y rfl (Y.moveB rfl)<|Ops.nn rfl<|Ops.nn rfl<|hst.y rfl (Y.pB rfl rfl)<|hst.y rfl (Y.assignB rfl)<|Ops.done rfl<|?_
        first | exact ⟨_, ⟨rfl, trivial⟩, ⟨rfl, rfl, rfl, trivial⟩, (decide_eq_true (by omega)).symm, hst⟩ | exact ⟨_, ⟨rfl, trivial⟩, ⟨rfl, rfl, rfl, trivial⟩, (decide_eq_false (by omega)).symm, hst⟩ | exact absurd (by decide) hb34 | (exfalso; omega)
      · replace hb34 := dT hb34; refine hst.y rfl (Y.moveI rfl)<|hst.yb rfl (Y.neq rfl rfl) (fun b37 hb37 => hst.y rfl (Y.pB rfl rfl)<|hst.y rfl (Y.moveB rfl)<|?_); cases b37
        · replace hb37 := dF hb37; refine Ops.nn rfl<|Ops.nn rfl<|hst.y rfl (Y.pB rfl rfl)<|hst.y rfl (Y.assignB rfl)<|Ops.done rfl<|?_
          first | exact ⟨_, ⟨rfl, trivial⟩, ⟨rfl, rfl, rfl, trivial⟩, (decide_eq_true (by omega)).symm, hst⟩ | exact ⟨_, ⟨rfl, trivial⟩, ⟨rfl, rfl, rfl, trivial⟩, (decide_eq_false (by omega)).symm, hst⟩ | exact absurd (by decide) hb34 | (exfalso; omega)
        · replace hb37 := dT hb37; refine hst.y rfl (Y.moveI rfl)<|hst.yb rfl (Y.neq rfl rfl) (fun b41 hb41 => hst.y rfl (Y.pB rfl rfl)<|?_); cases b41
          · replace hb41 := dF hb41; refine hst.y rfl (Y.assignB rfl)<|Ops.done rfl<|?_
            first | exact ⟨_, ⟨rfl, trivial⟩, ⟨rfl, rfl, rfl, trivial⟩, (decide_eq_true (by omega)).symm, hst⟩ | exact ⟨_, ⟨rfl, trivial⟩, ⟨rfl, rfl, rfl, trivial⟩, (decide_eq_false (by omega)).symm, hst⟩ | exact absurd (by decide) hb34 | (exfalso; omega)
          · replace hb41 := dT hb41; refine hst.y rfl (Y.assignB rfl)<|Ops.done rfl<|?_
            first | exact ⟨_, ⟨rfl, trivial⟩, ⟨rfl, rfl, rfl, trivial⟩, (decide_eq_true (by omega)).symm, hst⟩ | exact ⟨_, ⟨rfl, trivial⟩, ⟨rfl, rfl, rfl, trivial⟩, (decide_eq_false (by omega)).symm, hst⟩ | exact absurd (by decide) hb34 | (exfalso; omega)
    · replace hb33 := dT hb33; exfalso; omega
  · replace hb31 := dT hb31; refine hst.y rfl (Y.moveI rfl)<|hst.yb rfl (Y.lss rfl rfl) (fun b33 hb33 => ?_); cases b33
    · replace hb33 := dF hb33; refine hst.yb rfl (Y.neB underlying4 rfl rfl) (fun b34 hb34 => hst.y rfl (Y.moveB rfl)<|?_); cases b34
      · replace hb34 := dF hb34; refine Ops.nn rfl<|Ops.nn rfl<|hst.y rfl (Y.pB rfl rfl)<|hst.y rfl (Y.moveB rfl)<|Ops.nn rfl<|Ops.nn rfl<|hst.y rfl (Y.pB rfl rfl)<|hst.y rfl (Y.assignB rfl)<|Ops.done rfl<|?_
        first | exact ⟨_, ⟨rfl, trivial⟩, ⟨rfl, rfl, rfl, trivial⟩, (decide_eq_true (by omega)).symm, hst⟩ | exact ⟨_, ⟨rfl, trivial⟩, ⟨rfl, rfl, rfl, trivial⟩, (decide_eq_false (by omega)).symm, hst⟩ | exact absurd (by decide) hb34 | (exfalso; omega)
      · replace hb34 := dT hb34; refine hst.y rfl (Y.moveI rfl)<|hst.yb rfl (Y.neq rfl rfl) (fun b37 hb37 => hst.y rfl (Y.pB rfl rfl)<|hst.y rfl (Y.moveB rfl)<|?_); cases b37
        · replace hb37 := dF hb37; refine Ops.nn rfl<|Ops.nn rfl<|hst.y rfl (Y.pB rfl rfl)<|hst.y rfl (Y.assignB rfl)<|Ops.done rfl<|?_
          first | exact ⟨_, ⟨rfl, trivial⟩, ⟨rfl, rfl, rfl, trivial⟩, (decide_eq_true (by omega)).symm, hst⟩ | exact ⟨_, ⟨rfl, trivial⟩, ⟨rfl, rfl, rfl, trivial⟩, (decide_eq_false (by omega)).symm, hst⟩ | exact absurd (by decide) hb34 | (exfalso; omega)
        · replace hb37 := dT hb37; refine hst.y rfl (Y.moveI rfl)<|hst.yb rfl (Y.neq rfl rfl) (fun b41 hb41 => hst.y rfl (Y.pB rfl rfl)<|?_); cases b41
          · replace hb41 := dF hb41; refine hst.y rfl (Y.assignB rfl)<|Ops.done rfl<|?_
            first | exact ⟨_, ⟨rfl, trivial⟩, ⟨rfl, rfl, rfl, trivial⟩, (decide_eq_true (by omega)).symm, hst⟩ | exact ⟨_, ⟨rfl, trivial⟩, ⟨rfl, rfl, rfl, trivial⟩, (decide_eq_false (by omega)).symm, hst⟩ | exact absurd (by decide) hb34 | (exfalso; omega)
          · replace hb41 := dT hb41; refine hst.y rfl (Y.assignB rfl)<|Ops.done rfl<|?_
            first | exact ⟨_, ⟨rfl, trivial⟩, ⟨rfl, rfl, rfl, trivial⟩, (decide_eq_true (by omega)).symm, hst⟩ | exact ⟨_, ⟨rfl, trivial⟩, ⟨rfl, rfl, rfl, trivial⟩, (decide_eq_false (by omega)).symm, hst⟩ | exact absurd (by decide) hb34 | (exfalso; omega)
    · replace hb33 := dT hb33; exfalso; omega
theorem mulUp_any (a : Int) (c : Int) (w0 w : World) (F0 : List Nat) (L G : List Res) (hst : St w0 F0 w L G) (ha : 0 ≤ a ∧ a ≤ 2305843009213693952) (hc : 1 ≤ c ∧ c ≤ 2305843009213693952) :
    Calls Tryz.prog 52 #[.int .i64 a, .int .i64 1, .int .i64 c] w fun e w' => e = .returned (.int .i64 ((a + c - 1) / c)) ∧ St w0 F0 w' L G := by
  refine W.func func52 rfl ntmps52 rfl<|W.sr rfl<|hst.y rfl (Y.assignI rfl)<|Ops.done rfl<|W.seq rfl<|?_; have hng := neg_id ha; have hz : max (clip c) 1 = c := by rw [clip_id (by omega)]; omega
  have hq := up_div ha.1 hc.1; have hq0 := Int.ediv_nonneg (a := a) (b := c) ha.1 (by omega); have hq1 := Int.ediv_le_self c ha.1; have hr0 := Int.emod_nonneg a (b := c) (by omega); have hr1 := Int.emod_lt_of_pos a (b := c) (by omega); have h0 : a = 0 → a / c = 0 ∧ a % c = 0 := by rintro rfl; simp
  have hm1 : a / c + a % c ≤ a := by
    have h1 := Int.mul_ediv_add_emod a c; have h2 : 1 * (a / c) ≤ c * (a / c) := Int.mul_le_mul_of_nonneg_right hc.1 hq0; omega
  refine W.region rfl<|hst.y rfl (Y.moveI rfl)<|Ops.ww rfl (X.ret cf75 (neg_any _ _ _ _ _ _ hst ) rfl fun w8 hst => hst.y rfl (Y.moveI rfl)<|hst.y rfl (Y.moveI rfl)<|Ops.ww rfl (X.ret cf74 (mulDiv_any _ _ _ _ _ _ _ hst (by omega) (by omega)) rfl fun w11 hst => hst.y rfl (Y.cast (Y.negI rfl (by omega)) (v' := .int .i64 ((a + c - 1) / c)) (congrArg (Value.int .i64) (by omega)))<|hst.y rfl (Y.assignI rfl)<|Ops.done rfl<|W.ret rfl<|⟨_, Rslt.one results52 rfl, ?_⟩)); exact ⟨rfl, hst⟩
theorem settle_any (p : Par) (w0 w : World) (F0 : List Nat) (L G : List Res) (hst : St w0 F0 w L G) (hok : p.Ok) :
    Calls Tryz.prog 23 #[.agg #[.int .i64 p.N, .int .i64 p.F, .int .i64 p.D, .int .i64 p.Beat, .int .i64 p.Rho, .int .i64 p.Delay, .int .i64 p.Jitter, .int .i64 p.Eps, .int .i64 p.Mu, .int .i64 p.Hold, .int .i64 p.Pulse, .int .i64 p.Second]] w fun e w' => e = .returned (.int .i64 (settle p)) ∧ St w0 F0 w' L G := by
  have hD := hok.D; have hH := hok.Hold; have hw := width_nonneg hok (held := p.Hold) (hops := p.D) (by omega) (by omega); have hf := mul_nonneg (a := 3) (by decide) hw; have hf2 := mul_in 3 (width p p.Hold p.D); have hs : sub p.Mu p.Rho = p.Mu - p.Rho := sub_id (by have := hok.Mu; have := hok.Rho; have := hok.Beat; omega) (by have := hok.Rho; have := hok.Beat; omega); have hm := hok.Mu
  have hbt := hok.Beat
  have hrh := hok.Rho; refine W.func func23 rfl ntmps23 rfl<|W.sr rfl<|Ops.ww rfl (X.boxA hst rfl fun p1 w1 hst => hst.y rfl (Y.assignI rfl)<|Ops.ds rfl rfl<|hst.y rfl (Y.loadA 0 isAgg23 sizeOf23 rfl rfl rfl rfl)<|hst.y rfl (Y.fieldAddr fa23_9 rfl)<|hst.y rfl (Y.load 0 isAgg3 rfl rfl rfl)<|hst.y rfl (Y.fieldAddr fa23_2 rfl)<|hst.y rfl (Y.load 0 isAgg3 rfl rfl rfl)<|Ops.ww rfl (X.ret cf46 (width_any p _ _ _ _ _ _ _ hst ) rfl fun w9 hst => Ops.ww rfl (X.ret cf45 (mul_any _ _ _ _ _ _ _ hst ) rfl fun w10 hst => hst.y rfl (Y.assignI rfl)<|Ops.done rfl<|W.seq rfl<|W.drawn rfl (by kernel_rfl) (Ctx _ _ (_) (_)) [] (.op 0 0 (.op 1 0 (.op 3 0 (.op 4 0 (.op 5 0 (.op 6 0 (.op 7 0 (.op 2 1 (.op 8 1 (.op 9 1 (.op 10 1 (.op 11 1 (.op 12 0 .nil))))))))))))) rfl (by kernel_rfl) hst.drew.ctx<|?_))); replace hst := hst.drew; generalize World.drew _ = wd at hst ⊢; refine hst.z rfl (Y.fieldAddr fa23_2 rfl)<|hst.z rfl (Y.load 0 isAgg3 rfl rfl rfl)<|hst.z rfl (Y.moveI rfl)<|hst.z rfl (Y.fieldAddr fa23_8 rfl)<|hst.z rfl (Y.load 0 isAgg3 rfl rfl rfl)<|hst.z rfl (Y.fieldAddr fa23_4 rfl)<|hst.z rfl (Y.load 0 isAgg3 rfl rfl rfl)<|Drw.ww rfl (X.ret cf45 (mul_any _ _ _ _ _ _ _ hst ) rfl fun w13 hst => ⟨hst.ctx, Drw.ww rfl (X.ret cf53 (sub_any _ _ _ _ _ _ _ hst ) rfl fun w19 hst => ⟨hst.ctx, Drw.ww rfl (X.ret cf52 (mulUp_any _ _ _ _ _ _ _ hst (by omega) (by omega)) rfl fun w20 hst => ⟨hst.ctx, Drw.ww rfl (X.lits hst underlying24 sizeOf3 zeroValue3 (by rfl) (by rfl) (by rfl) [.int _ _, .int _ _, .int _ _] (by rfl) (by rfl) fun p21 w21 hst => ⟨(hst.cx 1), ?_⟩)⟩)⟩)⟩); refine Drw.ww rfl (X.ret cf27 (adds_any [mul 2 p.D, 6, (mul 3 (width p p.Hold p.D) + (sub p.Mu p.Rho) - 1) / (sub p.Mu p.Rho)] _ _ (by simp) _ _ _ _ _ hst (Rds.ofCells 0 rfl 3 3)) rfl fun w22 hst => ⟨(hst.cx 1), ?_⟩); refine Drw.q rfl (hst.cx 1) (Y.assignI rfl)<|Drw.done<|W.ret rfl<|⟨_, Rslt.one results23 rfl, ?_⟩; exact ⟨rfl, (hst.dr 2)⟩
end Go.Proofs.YtaanjifekgfemaaGreat.Cl
end
section
namespace Go.Proofs.YtaanjifekgfemaaGreat.K
open Tryz
open Go.RowKit
def flat {α : Type} (c : α → List Value) (l : List α) : List Value := l.flatMap c
section
variable {α : Type} {c : α → List Value} {m : Nat}
theorem flat_length (hc : ∀ x, (c x).length = m) (l : List α) : (flat c l).length = l.length * m := by
  induction l with
  | nil => simp [flat]
  | cons x l ih => simp only [flat, List.flatMap_cons, List.length_append, List.length_cons, hc] at ih ⊢; rw [ih, Nat.add_mul]; omega
theorem flat_append (l l' : List α) : flat c (l ++ l') = flat c l ++ flat c l' := by simp [flat]
theorem flat_at (hc : ∀ x, (c x).length = m) (l : List α) (k : Nat) (h : k < l.length) : ((flat c l).drop (k * m)).take m = c l[k] := by
  induction l generalizing k with
  | nil => simp at h
  | cons x l ih =>
    cases k with
    | zero =>
      simp only [flat, List.flatMap_cons, Nat.zero_mul, List.drop_zero, List.getElem_cons_zero]; rw [List.take_append_of_le_length (by rw [hc]; omega), List.take_of_length_le (by rw [hc]; omega)]
    | succ k =>
      have h2 := ih k (by simpa using h); simp only [flat, List.flatMap_cons, List.getElem_cons_succ] at h2 ⊢; rw [Nat.add_mul, Nat.one_mul, Nat.add_comm (k * m) m, ← List.drop_drop, List.drop_append, hc, Nat.sub_self, List.drop_zero, List.drop_of_length_le (l := c x) (by rw [hc]; omega), List.nil_append]; exact h2
theorem flat_atI (hc : ∀ x, (c x).length = m) (l : List α) (k : Nat) (h : k < l.length) : ((flat c l).drop ((k : Int).toNat * m)).take m = c l[k] := flat_at hc l k h
theorem flat_get (hc : ∀ x, (c x).length = m) (l : List α) (k i : Nat) (h : k < l.length) (hi : i < m) : (flat c l)[k * m + i]? = (c l[k])[i]? := by
  have h2 := congrArg (fun l => l[i]?) (flat_at hc l k h); simp only [List.getElem?_take, hi, if_true, List.getElem?_drop] at h2; exact h2
theorem flat_pos {l : List α} (hc : ∀ x, (c x).length = m) (hm : 0 < m) (h : 0 < l.length) : 0 < (flat c l).length := by
  rw [flat_length hc l]; exact Nat.mul_pos h hm
end
section
variable {P : Program} {n : Fr} {c : Code} {Q : Post} {ρ : Env} {w0 w : World} {F0 : List Nat} {L G : List Res} {S : World → Prop} {ty t t' : TypeId} {x y : Operand}
theorem X.retV {f : FuncId} {z : Nat} {xs : Array Operand} {tys : Array TypeId} {fs cs : List Value} {w1 : World} {F1 : List Nat} {L' G' : List Res} {v : Value} {args : List Value} (hfc : ∀ args w, (callFunc f args).run P w = .ok (.enter f args) w) (hx : ρ z = .func (.func f) fs.toArray cs.toArray)
    (h : Calls P f args.toArray w fun e w' => e = .returned v ∧ St w1 F1 w' L' G') (hv : fs ++ xs.toList.map (ev ρ) ++ cs = args) {K : Value → World → Prop} (k : ∀ w', St w1 F1 w' L' G' → K v w') : X P ρ w (.call { callee := .value (.tmp z), args := xs, argTypes := tys }) ty K := by
  subst hv; exact X.callV hfc hx rfl (h.mono fun _ w' ⟨h1, h2⟩ => ⟨v, h1, k w' h2⟩)
theorem X.retVB {f : FuncId} {z : Nat} {xs : Array Operand} {tys : Array TypeId} {fs cs : List Value} {w1 : World} {F1 : List Nat} {L' G' : List Res} {q : Bool} {args : List Value} (hfc : ∀ args w, (callFunc f args).run P w = .ok (.enter f args) w) (hx : ρ z = .func (.func f) fs.toArray cs.toArray)
    (h : Calls P f args.toArray w fun e w' => e = .returned (.bool q) ∧ St w1 F1 w' L' G') (hv : fs ++ xs.toList.map (ev ρ) ++ cs = args) {K : Value → World → Prop} (k : ∀ b w', b = decide (q = true) → St w1 F1 w' L' G' → K (.bool b) w') : X P ρ w (.call { callee := .value (.tmp z), args := xs, argTypes := tys }) ty K :=
  X.retV hfc hx h hv fun w' h => k q w' (by cases q <;> rfl) h
theorem equalIn_nilS (d : Nat) (e : TypeId) (ht : P.underlying t = some (.slice e)) (A : Option Addr) (l c : Nat) (w : World) : (Op.equalIn (d + 1) t (.slice A l c) (.slice none 0 0)).run P w = .ok A.isNone w := by
  rw [Op.equalIn]; cases A <;> simp [run_underlying ht]
theorem Y.nilS {e : TypeId} (ht : P.underlying t = some (.slice e)) {A : Option Addr} {l c : Nat} (hx : ev ρ x = .slice A l c) : Y P S ρ (.binOp .eql t x (.const (.slice none 0 0)) t') ty (.bool A.isNone) := fun w _ o ho _ => by
  have he : ∀ w, (eqGuard .eql t x (.const (.slice none 0 0)) (.slice A l c) (.slice none 0 0)).run P w = .ok () w := fun w => by unfold eqGuard; simp
  have h2 : (Op.equal t (.slice A l c) (.slice none 0 0)).run P w = .ok A.isNone w := equalIn_nilS 9999 e ht A l c w; have hy : ev ρ (.const (.slice none 0 0)) = .slice none 0 0 := rfl
  have h3 : (Go.binOp .eql t (.slice A l c) (.slice none 0 0)).run P w = .ok (.bool A.isNone) w := by
    unfold binOp; simp only [Sem.run_bind, h2, Result.andThen_ok]; rfl
  simp only [execOp, ho, hx, hy]; simp [he, h3]
end
def pairC (x : Int × Int) : List Value := [.int .i64 x.1, .int .i64 x.2]
theorem pairC_len (x : Int × Int) : (pairC x).length = 2 := rfl
def idxI {α : Type} (p : α → Bool) (l : List α) : Int := if l.findIdx p < l.length then (l.findIdx p : Int) else -1
theorem idxI_at {α : Type} {p : α → Bool} {l : List α} {k : Nat} (h : k < l.length) (hp : p l[k] = true) (h0 : ∀ j (hj : j < l.length), j < k → p l[j] = false) : idxI p l = k := by
  have e : l.findIdx p = k := (List.findIdx_eq h).2 ⟨hp, fun j hj => h0 j (by omega) hj⟩; unfold idxI; rw [e, if_pos h]
theorem idxI_no {α : Type} {p : α → Bool} {l : List α} (h0 : ∀ j (hj : j < l.length), p l[j] = false) : idxI p l = -1 := by
  unfold idxI; rw [if_neg]; intro h; have := List.findIdx_getElem (xs := l) (p := p) (w := h); rw [h0 _ h] at this; cases this
theorem idxI_ex {α : Type} (p : α → Bool) (l : List α) : decide (idxI p l ≥ 0) = decide (∃ x ∈ l, p x = true) := by
  rw [decide_eq_decide]; unfold idxI; rw [← List.findIdx_lt_length (p := p)]; constructor
  · intro h; split at h
    · assumption
    · omega
  · intro h; rw [if_pos h]; omega
end Go.Proofs.YtaanjifekgfemaaGreat.K
end
section
namespace Go.Proofs.YtaanjifekgfemaaGreat.Cl
open Tryz
open Go.RowKit Go.Proofs.YtaanjifekgfemaaGreat.K Go.Proofs.YtaanjifekgfemaaGreat.W
attribute [local irreducible] bound clip adds sub neg mag mulp mul maxs
theorem cf89 : CF 89 := fun _ _ => by simp [go_sem]
theorem cf138 : CF 138 := fun _ _ => by simp [go_sem]
theorem indexFunc_Leap {α : Type} (c : α → List Value) (hc : ∀ x, (c x).length = 2) (p : α → Bool) (l : List α) (hl : l.length ≤ 9223372036854775806) (A : Option Addr) (cap : Nat) (f : FuncId) (fs cs : List Value) (hfc : ∀ args w, (callFunc f args).run Tryz.prog w = .ok (.enter f args) w) (w0 w : World) (F0 : List Nat) (L G : List Res) (hst : St w0 F0 w L G) (hr : Rds L G (.slice A l.length cap) l.length (flat c l))
    (hf : ∀ x ∈ l, ∀ w, St w0 F0 w L G → Calls Tryz.prog f (fs ++ [Value.agg (c x).toArray] ++ cs).toArray w fun e w' => e = .returned (.bool (p x)) ∧ St w0 F0 w' L G) :
    Calls Tryz.prog 89 #[.slice A l.length cap, .func (.func f) fs.toArray cs.toArray] w fun e w' => e = .returned (.int .i64 (idxI p l)) ∧ St w0 F0 w' L G := by
  refine W.func func89 rfl ntmps89 rfl<|W.sr rfl<|hst.y rfl (Y.assignI rfl)<|Ops.done rfl<|W.seq rfl<|W.sr rfl<|hst.y rfl (Y.moveS rfl)<|hst.y rfl (Y.lenS underlying41 rfl)<|hst.y rfl (Y.moveI rfl)<|Ops.done rfl<|W.block rfl<|?_; refine W.loop (γ := Nat) [(0, .slice _ _ _), (1, _), (7, .int _ _)] (fun k => [(8, .int .i64 (k : Int))]) (fun k w => (k ≤ l.length ∧ ∀ j (h : j < l.length), j < k → p l[j] = false) ∧ St w0 F0 w L G) (fun k => l.length - k) (0) rfl ⟨rfl, rfl, rfl, trivial⟩ ?_ ?_ ?_
  · exact ⟨rfl, trivial⟩
  · exact ⟨⟨by omega, fun j _ h => by omega⟩, hst⟩
  · clear hst; rintro k j w3 ⟨⟨hk, h0⟩, hst⟩; refine W.sr rfl<|hst.yb rfl (Y.lss rfl rfl) (fun b9 hb9 => Ops.done rfl<|W.seq rfl<|?_); cases b9
    · replace hb9 := dF hb9; refine W.condF rfl rfl<|W.exit rfl<|W.sr rfl<|hst.y rfl (Y.assignI rfl)<|Ops.done rfl<|W.ret rfl<|⟨_, Rslt.one results89 rfl, ?_⟩; exact ⟨ret_int (idxI_no (fun j h => h0 j h (by omega))).symm, hst⟩
    · replace hb9 := dT hb9; refine W.condT rfl rfl<|W.skip rfl<|W.seq rfl<|W.block rfl<|W.sr rfl<|hst.y rfl (Y.moveI rfl)<|hst.y rfl (Y.assignI rfl)<|Ops.done rfl<|W.seq rfl<|?_; have hk1 : k < l.length := by omega
      refine W.region rfl<|hst.y rfl (Y.moveV rfl)<|hst.y rfl (Y.moveS rfl)<|hst.y rfl (Y.moveI rfl)<|hst.y rfl (Y.indexAddr underlying41 sizeOf114 rfl rfl ((hr.sl hst).ne (flat_pos hc (by decide) (by omega))) (by omega))<|?_; refine hst.y rfl (Y.loadSlA isAgg114 sizeOf114 rfl hr (flat_atI hc l k hk1) (hc _))<|Ops.ww rfl (X.retVB hfc rfl (hf _ (List.getElem_mem hk1) _ hst) rfl fun b16 w16 hb16 hst => Ops.done rfl<|?_); cases b16
      · replace hb16 := dF hb16; refine W.condF rfl rfl<|W.skip rfl<|W.region rfl<|hst.y rfl (Y.addI rfl rfl (by omega))<|hst.y rfl (Y.moveI rfl)<|Ops.done rfl<|?_; refine ⟨k + 1, ⟨rfl, trivial⟩, ⟨rfl, rfl, rfl, trivial⟩, ⟨⟨by omega, fun j hj h => ?_⟩, hst⟩, by omega⟩; rcases (show j < k ∨ j = k by omega) with h | rfl
        · exact h0 j hj h
        · simpa using hb16
      · replace hb16 := dT hb16; refine W.condT rfl rfl<|W.sr rfl<|hst.y rfl (Y.moveI rfl)<|hst.y rfl (Y.assignI rfl)<|Ops.done rfl<|W.ret rfl<|⟨_, Rslt.one results89 rfl, ?_⟩; exact ⟨ret_int (idxI_at hk1 hb16 h0).symm, hst⟩
theorem indexFunc_Way {α : Type} (c : α → List Value) (hc : ∀ x, (c x).length = 2) (p : α → Bool) (l : List α) (hl : l.length ≤ 9223372036854775806) (A : Option Addr) (cap : Nat) (f : FuncId) (fs cs : List Value) (hfc : ∀ args w, (callFunc f args).run Tryz.prog w = .ok (.enter f args) w) (w0 w : World) (F0 : List Nat) (L G : List Res) (hst : St w0 F0 w L G) (hr : Rds L G (.slice A l.length cap) l.length (flat c l))
    (hf : ∀ x ∈ l, ∀ w, St w0 F0 w L G → Calls Tryz.prog f (fs ++ [Value.agg (c x).toArray] ++ cs).toArray w fun e w' => e = .returned (.bool (p x)) ∧ St w0 F0 w' L G) :
    Calls Tryz.prog 78 #[.slice A l.length cap, .func (.func f) fs.toArray cs.toArray] w fun e w' => e = .returned (.int .i64 (idxI p l)) ∧ St w0 F0 w' L G := by
  refine W.func func78 rfl ntmps78 rfl<|W.sr rfl<|hst.y rfl (Y.assignI rfl)<|Ops.done rfl<|W.seq rfl<|W.sr rfl<|hst.y rfl (Y.moveS rfl)<|hst.y rfl (Y.lenS underlying25 rfl)<|hst.y rfl (Y.moveI rfl)<|Ops.done rfl<|W.block rfl<|?_; refine W.loop (γ := Nat) [(0, .slice _ _ _), (1, _), (7, .int _ _)] (fun k => [(8, .int .i64 (k : Int))]) (fun k w => (k ≤ l.length ∧ ∀ j (h : j < l.length), j < k → p l[j] = false) ∧ St w0 F0 w L G) (fun k => l.length - k) (0) rfl ⟨rfl, rfl, rfl, trivial⟩ ?_ ?_ ?_
  · exact ⟨rfl, trivial⟩
  · exact ⟨⟨by omega, fun j _ h => by omega⟩, hst⟩
  · clear hst; rintro k j w3 ⟨⟨hk, h0⟩, hst⟩; refine W.sr rfl<|hst.yb rfl (Y.lss rfl rfl) (fun b9 hb9 => Ops.done rfl<|W.seq rfl<|?_); cases b9
    · replace hb9 := dF hb9; refine W.condF rfl rfl<|W.exit rfl<|W.sr rfl<|hst.y rfl (Y.assignI rfl)<|Ops.done rfl<|W.ret rfl<|⟨_, Rslt.one results78 rfl, ?_⟩; exact ⟨ret_int (idxI_no (fun j h => h0 j h (by omega))).symm, hst⟩
    · replace hb9 := dT hb9; refine W.condT rfl rfl<|W.skip rfl<|W.seq rfl<|W.block rfl<|W.sr rfl<|hst.y rfl (Y.moveI rfl)<|hst.y rfl (Y.assignI rfl)<|Ops.done rfl<|W.seq rfl<|?_; have hk1 : k < l.length := by omega
      refine W.region rfl<|hst.y rfl (Y.moveV rfl)<|hst.y rfl (Y.moveS rfl)<|hst.y rfl (Y.moveI rfl)<|hst.y rfl (Y.indexAddr underlying25 sizeOf77 rfl rfl ((hr.sl hst).ne (flat_pos hc (by decide) (by omega))) (by omega))<|?_; refine hst.y rfl (Y.loadSlA isAgg77 sizeOf77 rfl hr (flat_atI hc l k hk1) (hc _))<|Ops.ww rfl (X.retVB hfc rfl (hf _ (List.getElem_mem hk1) _ hst) rfl fun b16 w16 hb16 hst => Ops.done rfl<|?_); cases b16
      · replace hb16 := dF hb16; refine W.condF rfl rfl<|W.skip rfl<|W.region rfl<|hst.y rfl (Y.addI rfl rfl (by omega))<|hst.y rfl (Y.moveI rfl)<|Ops.done rfl<|?_; refine ⟨k + 1, ⟨rfl, trivial⟩, ⟨rfl, rfl, rfl, trivial⟩, ⟨⟨by omega, fun j hj h => ?_⟩, hst⟩, by omega⟩; rcases (show j < k ∨ j = k by omega) with h | rfl
        · exact h0 j hj h
        · simpa using hb16
      · replace hb16 := dT hb16; refine W.condT rfl rfl<|W.sr rfl<|hst.y rfl (Y.moveI rfl)<|hst.y rfl (Y.assignI rfl)<|Ops.done rfl<|W.ret rfl<|⟨_, Rslt.one results78 rfl, ?_⟩; exact ⟨ret_int (idxI_at hk1 hb16 h0).symm, hst⟩
theorem indexFunc_Heard {α : Type} (c : α → List Value) (hc : ∀ x, (c x).length = 15) (p : α → Bool) (l : List α) (hl : l.length ≤ 9223372036854775806) (A : Option Addr) (cap : Nat) (f : FuncId) (fs cs : List Value) (hfc : ∀ args w, (callFunc f args).run Tryz.prog w = .ok (.enter f args) w) (w0 w : World) (F0 : List Nat) (L G : List Res) (hst : St w0 F0 w L G) (hr : Rds L G (.slice A l.length cap) l.length (flat c l))
    (hf : ∀ x ∈ l, ∀ w, St w0 F0 w L G → Calls Tryz.prog f (fs ++ [Value.agg (c x).toArray] ++ cs).toArray w fun e w' => e = .returned (.bool (p x)) ∧ St w0 F0 w' L G) :
    Calls Tryz.prog 138 #[.slice A l.length cap, .func (.func f) fs.toArray cs.toArray] w fun e w' => e = .returned (.int .i64 (idxI p l)) ∧ St w0 F0 w' L G := by
  refine W.func func138 rfl ntmps138 rfl<|W.sr rfl<|hst.y rfl (Y.assignI rfl)<|Ops.done rfl<|W.seq rfl<|W.sr rfl<|hst.y rfl (Y.moveS rfl)<|hst.y rfl (Y.lenS underlying97 rfl)<|hst.y rfl (Y.moveI rfl)<|Ops.done rfl<|W.block rfl<|?_; refine W.loop (γ := Nat) [(0, .slice _ _ _), (1, _), (7, .int _ _)] (fun k => [(8, .int .i64 (k : Int))]) (fun k w => (k ≤ l.length ∧ ∀ j (h : j < l.length), j < k → p l[j] = false) ∧ St w0 F0 w L G) (fun k => l.length - k) (0) rfl ⟨rfl, rfl, rfl, trivial⟩ ?_ ?_ ?_
  · exact ⟨rfl, trivial⟩
  · exact ⟨⟨by omega, fun j _ h => by omega⟩, hst⟩
  · clear hst; rintro k j w3 ⟨⟨hk, h0⟩, hst⟩; refine W.sr rfl<|hst.yb rfl (Y.lss rfl rfl) (fun b9 hb9 => Ops.done rfl<|W.seq rfl<|?_); cases b9
    · replace hb9 := dF hb9; refine W.condF rfl rfl<|W.exit rfl<|W.sr rfl<|hst.y rfl (Y.assignI rfl)<|Ops.done rfl<|W.ret rfl<|⟨_, Rslt.one results138 rfl, ?_⟩; exact ⟨ret_int (idxI_no (fun j h => h0 j h (by omega))).symm, hst⟩
    · replace hb9 := dT hb9; refine W.condT rfl rfl<|W.skip rfl<|W.seq rfl<|W.block rfl<|W.sr rfl<|hst.y rfl (Y.moveI rfl)<|hst.y rfl (Y.assignI rfl)<|Ops.done rfl<|W.seq rfl<|?_; have hk1 : k < l.length := by omega
      refine W.region rfl<|hst.y rfl (Y.moveV rfl)<|hst.y rfl (Y.moveS rfl)<|hst.y rfl (Y.moveI rfl)<|hst.y rfl (Y.indexAddr underlying97 sizeOf138 rfl rfl ((hr.sl hst).ne (flat_pos hc (by decide) (by omega))) (by omega))<|?_; refine hst.y rfl (Y.loadSlA isAgg138 sizeOf138 rfl hr (flat_atI hc l k hk1) (hc _))<|Ops.ww rfl (X.retVB hfc rfl (hf _ (List.getElem_mem hk1) _ hst) rfl fun b16 w16 hb16 hst => Ops.done rfl<|?_); cases b16
      · replace hb16 := dF hb16; refine W.condF rfl rfl<|W.skip rfl<|W.region rfl<|hst.y rfl (Y.addI rfl rfl (by omega))<|hst.y rfl (Y.moveI rfl)<|Ops.done rfl<|?_; refine ⟨k + 1, ⟨rfl, trivial⟩, ⟨rfl, rfl, rfl, trivial⟩, ⟨⟨by omega, fun j hj h => ?_⟩, hst⟩, by omega⟩; rcases (show j < k ∨ j = k by omega) with h | rfl
        · exact h0 j hj h
        · simpa using hb16
      · replace hb16 := dT hb16; refine W.condT rfl rfl<|W.sr rfl<|hst.y rfl (Y.moveI rfl)<|hst.y rfl (Y.assignI rfl)<|Ops.done rfl<|W.ret rfl<|⟨_, Rslt.one results138 rfl, ?_⟩; exact ⟨ret_int (idxI_at hk1 hb16 h0).symm, hst⟩
theorem indexFunc_unit {α : Type} (c : α → List Value) (hc : ∀ x, (c x).length = 4) (p : α → Bool) (l : List α) (hl : l.length ≤ 9223372036854775806) (A : Option Addr) (cap : Nat) (f : FuncId) (fs cs : List Value) (hfc : ∀ args w, (callFunc f args).run Tryz.prog w = .ok (.enter f args) w) (w0 w : World) (F0 : List Nat) (L G : List Res) (hst : St w0 F0 w L G) (hr : Rds L G (.slice A l.length cap) l.length (flat c l))
    (hf : ∀ x ∈ l, ∀ w, St w0 F0 w L G → Calls Tryz.prog f (fs ++ [Value.agg (c x).toArray] ++ cs).toArray w fun e w' => e = .returned (.bool (p x)) ∧ St w0 F0 w' L G) :
    Calls Tryz.prog 62 #[.slice A l.length cap, .func (.func f) fs.toArray cs.toArray] w fun e w' => e = .returned (.int .i64 (idxI p l)) ∧ St w0 F0 w' L G := by
  refine W.func func62 rfl ntmps62 rfl<|W.sr rfl<|hst.y rfl (Y.assignI rfl)<|Ops.done rfl<|W.seq rfl<|W.sr rfl<|hst.y rfl (Y.moveS rfl)<|hst.y rfl (Y.lenS underlying84 rfl)<|hst.y rfl (Y.moveI rfl)<|Ops.done rfl<|W.block rfl<|?_; refine W.loop (γ := Nat) [(0, .slice _ _ _), (1, _), (7, .int _ _)] (fun k => [(8, .int .i64 (k : Int))]) (fun k w => (k ≤ l.length ∧ ∀ j (h : j < l.length), j < k → p l[j] = false) ∧ St w0 F0 w L G) (fun k => l.length - k) (0) rfl ⟨rfl, rfl, rfl, trivial⟩ ?_ ?_ ?_
  · exact ⟨rfl, trivial⟩
  · exact ⟨⟨by omega, fun j _ h => by omega⟩, hst⟩
  · clear hst; rintro k j w3 ⟨⟨hk, h0⟩, hst⟩; refine W.sr rfl<|hst.yb rfl (Y.lss rfl rfl) (fun b9 hb9 => Ops.done rfl<|W.seq rfl<|?_); cases b9
    · replace hb9 := dF hb9; refine W.condF rfl rfl<|W.exit rfl<|W.sr rfl<|hst.y rfl (Y.assignI rfl)<|Ops.done rfl<|W.ret rfl<|⟨_, Rslt.one results62 rfl, ?_⟩; exact ⟨ret_int (idxI_no (fun j h => h0 j h (by omega))).symm, hst⟩
    · replace hb9 := dT hb9; refine W.condT rfl rfl<|W.skip rfl<|W.seq rfl<|W.block rfl<|W.sr rfl<|hst.y rfl (Y.moveI rfl)<|hst.y rfl (Y.assignI rfl)<|Ops.done rfl<|W.seq rfl<|?_; have hk1 : k < l.length := by omega
      refine W.region rfl<|hst.y rfl (Y.moveV rfl)<|hst.y rfl (Y.moveS rfl)<|hst.y rfl (Y.moveI rfl)<|hst.y rfl (Y.indexAddr underlying84 sizeOf96 rfl rfl ((hr.sl hst).ne (flat_pos hc (by decide) (by omega))) (by omega))<|?_; refine hst.y rfl (Y.loadSlA isAgg96 sizeOf96 rfl hr (flat_atI hc l k hk1) (hc _))<|Ops.ww rfl (X.retVB hfc rfl (hf _ (List.getElem_mem hk1) _ hst) rfl fun b16 w16 hb16 hst => Ops.done rfl<|?_); cases b16
      · replace hb16 := dF hb16; refine W.condF rfl rfl<|W.skip rfl<|W.region rfl<|hst.y rfl (Y.addI rfl rfl (by omega))<|hst.y rfl (Y.moveI rfl)<|Ops.done rfl<|?_; refine ⟨k + 1, ⟨rfl, trivial⟩, ⟨rfl, rfl, rfl, trivial⟩, ⟨⟨by omega, fun j hj h => ?_⟩, hst⟩, by omega⟩; rcases (show j < k ∨ j = k by omega) with h | rfl
        · exact h0 j hj h
        · simpa using hb16
      · replace hb16 := dT hb16; refine W.condT rfl rfl<|W.sr rfl<|hst.y rfl (Y.moveI rfl)<|hst.y rfl (Y.assignI rfl)<|Ops.done rfl<|W.ret rfl<|⟨_, Rslt.one results62 rfl, ?_⟩; exact ⟨ret_int (idxI_at hk1 hb16 h0).symm, hst⟩
theorem flat_one {α : Type} {c : α → List Value} (hc : ∀ x, (c x).length = 1) (l : List α) (k : Nat) (h : k < l.length) : (flat c l)[(k : Int).toNat * 1]? = some ((c l[k]).getD 0 undef) := by
  have h1 := flat_get hc l k 0 h (by omega); have h2 := hc l[k]; rw [show (k : Int).toNat * 1 = k * 1 + 0 by omega, h1]; rw [List.getD_eq_getElem?_getD, List.getElem?_eq_getElem (by omega)]; rfl
theorem indexFunc_tabs {α : Type} (c : α → List Value) (hc : ∀ x, (c x).length = 1) (p : α → Bool) (l : List α) (hl : l.length ≤ 9223372036854775806) (A : Option Addr) (cap : Nat) (f : FuncId) (fs cs : List Value) (hfc : ∀ args w, (callFunc f args).run Tryz.prog w = .ok (.enter f args) w) (w0 w : World) (F0 : List Nat) (L G : List Res) (hst : St w0 F0 w L G) (hr : Rds L G (.slice A l.length cap) l.length (flat c l))
    (hf : ∀ x ∈ l, ∀ w, St w0 F0 w L G → Calls Tryz.prog f (fs ++ [(c x).getD 0 undef] ++ cs).toArray w fun e w' => e = .returned (.bool (p x)) ∧ St w0 F0 w' L G) :
    Calls Tryz.prog 189 #[.slice A l.length cap, .func (.func f) fs.toArray cs.toArray] w fun e w' => e = .returned (.int .i64 (idxI p l)) ∧ St w0 F0 w' L G := by
  refine W.func func189 rfl ntmps189 rfl<|W.sr rfl<|hst.y rfl (Y.assignI rfl)<|Ops.done rfl<|W.seq rfl<|W.sr rfl<|hst.y rfl (Y.moveS rfl)<|hst.y rfl (Y.lenS underlying290 rfl)<|hst.y rfl (Y.moveI rfl)<|Ops.done rfl<|W.block rfl<|?_; refine W.loop (γ := Nat) [(0, .slice _ _ _), (1, _), (7, .int _ _)] (fun k => [(8, .int .i64 (k : Int))]) (fun k w => (k ≤ l.length ∧ ∀ j (h : j < l.length), j < k → p l[j] = false) ∧ St w0 F0 w L G) (fun k => l.length - k) (0) rfl ⟨rfl, rfl, rfl, trivial⟩ ?_ ?_ ?_
  · exact ⟨rfl, trivial⟩
  · exact ⟨⟨by omega, fun j _ h => by omega⟩, hst⟩
  · clear hst; rintro k j w3 ⟨⟨hk, h0⟩, hst⟩; refine W.sr rfl<|hst.yb rfl (Y.lss rfl rfl) (fun b9 hb9 => Ops.done rfl<|W.seq rfl<|?_); cases b9
    · replace hb9 := dF hb9; refine W.condF rfl rfl<|W.exit rfl<|W.sr rfl<|hst.y rfl (Y.assignI rfl)<|Ops.done rfl<|W.ret rfl<|⟨_, Rslt.one results189 rfl, ?_⟩; exact ⟨ret_int (idxI_no (fun j h => h0 j h (by omega))).symm, hst⟩
    · replace hb9 := dT hb9; refine W.condT rfl rfl<|W.skip rfl<|W.seq rfl<|W.block rfl<|W.sr rfl<|hst.y rfl (Y.moveI rfl)<|hst.y rfl (Y.assignI rfl)<|Ops.done rfl<|W.seq rfl<|?_; have hk1 : k < l.length := by omega
      refine W.region rfl<|hst.y rfl (Y.moveV rfl)<|hst.y rfl (Y.moveS rfl)<|hst.y rfl (Y.moveI rfl)<|hst.y rfl (Y.indexAddr underlying290 sizeOf41 rfl rfl ((hr.sl hst).ne (flat_pos hc (by decide) (by omega))) (by omega))<|?_; refine hst.y rfl (Y.loadSl isAgg41 rfl hr (flat_one hc l k hk1))<|Ops.ww rfl (X.retVB hfc rfl (hf _ (List.getElem_mem hk1) _ hst) rfl fun b16 w16 hb16 hst => Ops.done rfl<|?_); cases b16
      · replace hb16 := dF hb16; refine W.condF rfl rfl<|W.skip rfl<|W.region rfl<|hst.y rfl (Y.addI rfl rfl (by omega))<|hst.y rfl (Y.moveI rfl)<|Ops.done rfl<|?_; refine ⟨k + 1, ⟨rfl, trivial⟩, ⟨rfl, rfl, rfl, trivial⟩, ⟨⟨by omega, fun j hj h => ?_⟩, hst⟩, by omega⟩; rcases (show j < k ∨ j = k by omega) with h | rfl
        · exact h0 j hj h
        · simpa using hb16
      · replace hb16 := dT hb16; refine W.condT rfl rfl<|W.sr rfl<|hst.y rfl (Y.moveI rfl)<|hst.y rfl (Y.assignI rfl)<|Ops.done rfl<|W.ret rfl<|⟨_, Rslt.one results189 rfl, ?_⟩; exact ⟨ret_int (idxI_at hk1 hb16 h0).symm, hst⟩
theorem containsFunc_Leap {α : Type} (c : α → List Value) (hc : ∀ x, (c x).length = 2) (p : α → Bool) (l : List α) (hl : l.length ≤ 9223372036854775806) (A : Option Addr) (cap : Nat) (f : FuncId) (fs cs : List Value) (hfc : ∀ args w, (callFunc f args).run Tryz.prog w = .ok (.enter f args) w) (w0 w : World) (F0 : List Nat) (L G : List Res) (hst : St w0 F0 w L G) (hr : Rds L G (.slice A l.length cap) l.length (flat c l))
    (hf : ∀ x ∈ l, ∀ w, St w0 F0 w L G → Calls Tryz.prog f (fs ++ [Value.agg (c x).toArray] ++ cs).toArray w fun e w' => e = .returned (.bool (p x)) ∧ St w0 F0 w' L G) :
    Calls Tryz.prog 65 #[.slice A l.length cap, .func (.func f) fs.toArray cs.toArray] w fun e w' => ∃ b, e = .returned (.bool b) ∧ b = decide (∃ x ∈ l, p x = true) ∧ St w0 F0 w' L G := by
  refine W.func func65 rfl ntmps65 rfl<|W.sr rfl<|hst.y rfl (Y.assignB rfl)<|Ops.ds rfl rfl<|hst.y rfl (Y.moveS rfl)<|hst.y rfl (Y.moveV rfl)<|Ops.ww rfl (X.ret cf89 (indexFunc_Leap c hc p l hl _ _ f fs cs hfc _ _ _ _ _ hst hr hf) rfl fun w7 hst => hst.yb rfl (Y.geq rfl rfl) (fun b8 hb8 => hst.y rfl (Y.assignB rfl)<|Ops.done rfl<|W.ret rfl<|⟨_, Rslt.one results65 rfl, ?_⟩)); exact ⟨_, rfl, hb8.trans (idxI_ex p l), hst⟩
theorem containsFunc_Heard {α : Type} (c : α → List Value) (hc : ∀ x, (c x).length = 15) (p : α → Bool) (l : List α) (hl : l.length ≤ 9223372036854775806) (A : Option Addr) (cap : Nat) (f : FuncId) (fs cs : List Value) (hfc : ∀ args w, (callFunc f args).run Tryz.prog w = .ok (.enter f args) w) (w0 w : World) (F0 : List Nat) (L G : List Res) (hst : St w0 F0 w L G) (hr : Rds L G (.slice A l.length cap) l.length (flat c l))
    (hf : ∀ x ∈ l, ∀ w, St w0 F0 w L G → Calls Tryz.prog f (fs ++ [Value.agg (c x).toArray] ++ cs).toArray w fun e w' => e = .returned (.bool (p x)) ∧ St w0 F0 w' L G) :
    Calls Tryz.prog 125 #[.slice A l.length cap, .func (.func f) fs.toArray cs.toArray] w fun e w' => ∃ b, e = .returned (.bool b) ∧ b = decide (∃ x ∈ l, p x = true) ∧ St w0 F0 w' L G := by
  refine W.func func125 rfl ntmps125 rfl<|W.sr rfl<|hst.y rfl (Y.assignB rfl)<|Ops.ds rfl rfl<|hst.y rfl (Y.moveS rfl)<|hst.y rfl (Y.moveV rfl)<|Ops.ww rfl (X.ret cf138 (indexFunc_Heard c hc p l hl _ _ f fs cs hfc _ _ _ _ _ hst hr hf) rfl fun w7 hst => hst.yb rfl (Y.geq rfl rfl) (fun b8 hb8 => hst.y rfl (Y.assignB rfl)<|Ops.done rfl<|W.ret rfl<|⟨_, Rslt.one results125 rfl, ?_⟩)); exact ⟨_, rfl, hb8.trans (idxI_ex p l), hst⟩
end Go.Proofs.YtaanjifekgfemaaGreat.Cl
end
section
namespace Go.Proofs.YtaanjifekgfemaaGreat.K
open Tryz
open Go.RowKit
section
variable {P : Program} {n : Fr} {c : Code} {Q : Post} {ρ : Env} {w0 w : World} {F0 : List Nat} {L G : List Res} {S : World → Prop} {ty t t' : TypeId} {x y : Operand}
theorem splice_take {cs : List Value} {i k : Nat} {vs : List Value} (h : i + vs.length ≤ k) (hk : k ≤ cs.length) : (splice cs i vs).take k = splice (cs.take k) i vs := by
  have h1 : (cs.take i ++ vs).length = i + vs.length := by rw [List.length_append, List.length_take]; omega
  unfold splice; rw [List.take_append, List.take_of_length_le (by omega), h1, List.take_take, Nat.min_eq_left (by omega)]
  congr 1
  rw [← List.drop_take]
theorem row_cells {b m cap size : Nat} {e : TypeId} {xs : List Value} (h : (rowR (.slice (some ⟨b, 0, none⟩) m cap) e size m xs).holds w) :
    ∃ cur : List Value, w.heap[b]? = some (.cells cur.toArray e (0, 0)) ∧ m ≤ cap ∧ cap ≤ maxLen ∧ cur.length = cap * size ∧ cur.take (m * size) = xs ∧ xs.length = m * size := by
  rcases h.2 with ⟨h0, _⟩ | ⟨g, cp, cur, hv, _, hg, h1, h2, h3, h4⟩
  · cases h0
  · injection hv with hv _ hc; injection hv with hv; injection hv with hv; subst hv; subst hc; exact ⟨cur.toList, by simpa using hg, h1, h2, by simpa using h3, h4, h.1⟩
theorem row_of {b m cap size : Nat} {e : TypeId} {cur : List Value} (hg : w.heap[b]? = some (.cells cur.toArray e (0, 0))) (h1 : m ≤ cap) (h2 : cap ≤ maxLen) (h3 : cur.length = cap * size) : (rowR (.slice (some ⟨b, 0, none⟩) m cap) e size m (cur.take (m * size))).holds w :=
  ⟨by rw [List.length_take, h3, Nat.min_eq_left (Nat.mul_le_mul_right _ h1)], .inr ⟨b, cap, cur.toArray, rfl, Nat.zero_le _, hg, h1, h2, by simpa using h3, rfl⟩⟩
theorem St.layRow {b m cap size : Nat} {e : TypeId} {xs : List Value} (h : St w0 F0 w L G) {j : Nat} (hL : L[j]? = some (rowR (.slice (some ⟨b, 0, none⟩) m cap) e size m xs)) (i : Nat) (vs : List Value) (hi : i + vs.length ≤ m * size) (h1 : ∀ v ∈ vs, v.oneCell' = true) :
    ∃ w', (storeCells ⟨b, i, none⟩ vs).run P w = .ok () w' ∧ St w0 F0 w' (L.set j (rowR (.slice (some ⟨b, 0, none⟩) m cap) e size m (Go.Proofs.YtaanjifekgfemaaGreat.K.splice xs i vs))) G := by
  obtain ⟨cur, hg, hm, hc, hl, hx, hxl⟩ := row_cells (h.res _ (List.mem_of_getElem? hL)); have hms : m * size ≤ cap * size := Nat.mul_le_mul_right _ hm; have hr := run_storeCells_St (P := P) (w := w) (b := b) (cs := cur) (e := e) ⟨(0, 0), hg, .inl rfl⟩ i vs (by omega) h1; refine ⟨_, hr, ?_⟩; refine (St.step (w' := w.setRow b (Go.Proofs.YtaanjifekgfemaaGreat.K.splice cur i vs).toArray) (L1 := [rowR (.slice (some ⟨b, 0, none⟩) m cap) e size m xs]) (L2 := [rowR (.slice (some ⟨b, 0, none⟩) m cap) e size m (Go.Proofs.YtaanjifekgfemaaGreat.K.splice xs i vs)]) (h.perm (perm_at hL)) rfl rfl rfl (by simp) ?_ (fun b' hb' => .inl (by simpa using hb')) (by simp [blockOf]) ?_).perm (perm_set hL)
  · intro k hk hn; exact setRow_other _ _ _ _ (by simpa [blockOf] using hn)
  · intro r hr; simp at hr; subst hr; have h2 := row_of (w := w.setRow b (Go.Proofs.YtaanjifekgfemaaGreat.K.splice cur i vs).toArray) (b := b) (m := m) (cap := cap) (size := size) (e := e) (cur := Go.Proofs.YtaanjifekgfemaaGreat.K.splice cur i vs) (setRow_heap _ _ _ _ _ _ hg) hm hc (by rw [splice_length _ _ _ (by omega)]; exact hl); rwa [splice_take (by omega) (by omega), hx] at h2
theorem X.storeRow (hst : St w0 F0 w L G) (j : Nat) {sz : Nat} (hsz : ∀ w, (sizeOf t).run P w = .ok sz w) {b i : Nat} (hx : ev ρ x = .pointer (some ⟨b, i, none⟩)) {m cap size : Nat} {xs : List Value} {e : TypeId} (hL : L[j]? = some (rowR (.slice (some ⟨b, 0, none⟩) m cap) e size m xs))
    {vs : List Value} (hy : ev ρ y = .agg vs.toArray) (hm : vs.length = sz) (h1 : ∀ v ∈ vs, v.oneCell' = true) (hi : i + sz ≤ m * size) {K : Value → World → Prop}
    (k : ∀ w', St w0 F0 w' (L.set j (rowR (.slice (some ⟨b, 0, none⟩) m cap) e size m (splice xs i vs))) G → K undef w') : X P ρ w (.store t x y) ty K := by
  subst hm; obtain ⟨w', hr, h⟩ := hst.layRow (P := P) hL i vs hi h1; intro a ops Q o ho _ ha hw; refine wpl_skip hw (w' := w') ?_ ⟨_, rfl, k w' h⟩; rw [ha] at *; simp [execOp, ho, Instr.storeAt, Instr.sureAddr, hx, hy, storeVar, hsz, Value.cells, hr]
theorem St.rowTake {b m cap size k : Nat} {e : TypeId} {xs : List Value} (h : St w0 F0 w (rowR (.slice (some ⟨b, 0, none⟩) m cap) e size m xs :: L) G) (hk : k ≤ m) : St w0 F0 w (rowR (.slice (some ⟨b, 0, none⟩) k cap) e size k (xs.take (k * size)) :: L) G := by
  refine h.turn1 (by simp [blockOf]) (by simp [blockOf]) (fun hh => ?_); obtain ⟨cur, hg, hm, hc, hl, hx, hxl⟩ := row_cells hh; have h2 := row_of (w := w) (b := b) (m := k) (cap := cap) (size := size) (e := e) (cur := cur) hg (by omega) hc hl; rw [← hx, List.take_take, Nat.min_eq_left (Nat.mul_le_mul_right _ hk)]; exact h2
theorem X.clearRow (hst : St w0 F0 w L G) (j : Nat) {e : TypeId} (ht : P.underlying t = some (.slice e)) {z : Value} (hz : ∀ w, (zeroValue e).run P w = .ok z w) {zs : List Value} (hzs : z.cells = zs.toArray) (hz1 : ∀ v ∈ zs, v.oneCell' = true)
    {b m cap size k : Nat} {xs : List Value} (hzl : zs.length = size) (hx : ev ρ x = .slice (resl (some ⟨b, 0, none⟩) cap k size) (m - k) (cap - k)) (hL : L[j]? = some (rowR (.slice (some ⟨b, 0, none⟩) m cap) e size m xs)) (hk : k ≤ m) {K : Value → World → Prop}
    (hK : ∀ w' ys, ys.length = m * size → ys.take (k * size) = xs.take (k * size) → St w0 F0 w' (L.set j (rowR (.slice (some ⟨b, 0, none⟩) m cap) e size m ys)) G → K (.tuple #[]) w') : X P ρ w (.call { callee := .builtin .clear, args := #[x], argTypes := #[t] }) ty K := by
  intro a ops Q o ho _ ha hw; obtain ⟨cur, hg, hm, hc, hl, hxs, hxl⟩ := row_cells (hst.res _ (List.mem_of_getElem? hL))
  have hself : L.set j (rowR (.slice (some ⟨b, 0, none⟩) m cap) e size m xs) = L := by
    apply List.ext_getElem?; intro i
    by_cases hij : j = i
    · subst hij; rw [hL, List.getElem?_set_self (by rcases Nat.lt_or_ge j L.length with h | h; exact h; rw [List.getElem?_eq_none h] at hL; cases hL)]
    · rw [List.getElem?_set_ne hij]
  by_cases h0 : m = k
  · subst h0; refine wpl hw (v := .tuple #[]) (w' := w) ?_ ⟨_, rfl, hK w xs hxl rfl (by rw [hself]; exact hst)⟩; rw [ha]; rw [Nat.sub_self] at hx; generalize resl _ _ _ _ = A at hx; cases A <;> simp [execOp, ho, resolve, invoke, builtin, hx, Builtin.clear_, run_underlying ht]
  · have hlt : k < m := by omega
    have hms : m * size ≤ cap * size := Nat.mul_le_mul_right _ hm; have hzc : ((Builtin.zeroCells z.cells (m - k)).toList).length = (m - k) * size := by simp [Builtin.zeroCells, hzs, hzl]
    have hkm : k * size + (m - k) * size = m * size := by rw [← Nat.add_mul]; congr 1; omega
    have hone : ∀ v ∈ (Builtin.zeroCells z.cells (m - k)).toList, v.oneCell' = true := by
      intro v hv; simp only [Builtin.zeroCells, Array.toList_map, List.mem_map] at hv; obtain ⟨i, hi, rfl⟩ := hv; have hi2 : i < (m - k) * z.cells.size := by simpa using hi
      have hpos : 0 < z.cells.size := by
        rcases Nat.eq_zero_or_pos z.cells.size with h | h
        · rw [h] at hi2; simp at hi2
        · exact h
      have hlt2 := Nat.mod_lt i hpos; rw [getElem!_pos z.cells _ hlt2]; refine hz1 _ ?_; have h3 : z.cells[i % z.cells.size] ∈ z.cells.toList := by simp
      have h4 : z.cells.toList = zs := by rw [hzs]
      rwa [h4] at h3
    obtain ⟨w', hr, h⟩ := hst.layRow (P := P) hL (k * size) (Builtin.zeroCells z.cells (m - k)).toList (by omega) hone
    have hrs : resl (some (⟨b, 0, none⟩ : Addr)) cap k size = some ⟨b, k * size, none⟩ := by
      unfold resl; rw [if_neg (by omega)]; show some ((⟨b, 0, none⟩ : Addr).add _) = _; rw [add_lit', Nat.zero_add]
    rw [hrs] at hx; obtain ⟨d, hd⟩ : ∃ d, m - k = d + 1 := ⟨m - k - 1, by omega⟩; refine wpl hw (v := .tuple #[]) (w' := w') ?_ ⟨_, rfl, hK w' _ (by rw [splice_length _ _ _ (by omega)]; exact hxl) ?_ h⟩
    · rw [ha]; rw [hd] at hx hr; simp [execOp, ho, resolve, invoke, builtin, hx, Builtin.clear_, run_underlying ht, hz, hr]
    · unfold splice; rw [List.append_assoc, List.take_append_of_le_length (by rw [List.length_take]; omega), List.take_take, Nat.min_self]
end
end Go.Proofs.YtaanjifekgfemaaGreat.K
end
section
namespace Go.Proofs.YtaanjifekgfemaaGreat.Cl
open Tryz
open Go.RowKit Go.Proofs.YtaanjifekgfemaaGreat.K Go.Proofs.YtaanjifekgfemaaGreat.W
attribute [local irreducible] bound clip adds sub neg mag mulp mul maxs
theorem fa114_0 : FA 114 0 0 := fun _ _ => by simp [Instr.fieldAt, Instr.sureAddr, go_sem]
theorem fa114_1 : FA 114 1 1 := fun _ _ => by simp [Instr.fieldAt, Instr.sureAddr, go_sem]
theorem cf60 : CF 60 := fun _ _ => by simp [go_sem]
theorem cf64 : CF 64 := fun _ _ => by simp [go_sem]
theorem cf65 : CF 65 := fun _ _ => by simp [go_sem]
theorem cf79 : CF 79 := fun _ _ => by simp [go_sem]
theorem eq2_way (a b c d : Int) (w : World) : (Op.equalIn 10000 77 (.agg #[.int .i64 a, .int .i64 b]) (.agg #[.int .i64 c, .int .i64 d])).run Tryz.prog w = .ok (decide (a = c ∧ b = d)) w :=
  run_eq2 underlying77 (by kernel_rfl) (by decide) (by decide) rfl rfl underlying3 underlying3 (fun _ => sizeOf3 _) (fun _ => sizeOf3 _) (fun _ => isAgg3 _) (fun _ => isAgg3 _) a b c d w
theorem eqg_way : Tryz.prog.eqGuardType Tryz.prog.depth 77 = false := by kernel_rfl
theorem index_int (l : List Int) (hl : l.length ≤ 9223372036854775806) (A : Option Addr) (cap : Nat) (v : Int) (w0 w : World) (F0 : List Nat) (L G : List Res) (hst : St w0 F0 w L G) (hr : Rds L G (.slice A l.length cap) l.length (ivs l)) :
    Calls Tryz.prog 60 #[.slice A l.length cap, .int .i64 v] w fun e w' => e = .returned (.int .i64 (idxI (fun x => decide (v = x)) l)) ∧ St w0 F0 w' L G := by
  refine W.func func60 rfl ntmps60 rfl<|W.sr rfl<|hst.y rfl (Y.assignI rfl)<|Ops.done rfl<|W.seq rfl<|W.sr rfl<|hst.y rfl (Y.moveS rfl)<|hst.y rfl (Y.lenS underlying24 rfl)<|hst.y rfl (Y.moveI rfl)<|Ops.done rfl<|W.block rfl<|?_; refine W.loop (γ := Nat) [(0, .slice _ _ _), (1, .int _ _), (7, .int _ _)] (fun k => [(8, .int .i64 (k : Int))]) (fun k w => (k ≤ l.length ∧ ∀ j (h : j < l.length), j < k → decide (v = l[j]) = false) ∧ St w0 F0 w (L) G) (fun k => l.length - k) (0) rfl ⟨rfl, rfl, rfl, trivial⟩ ?_ ?_ ?_
  · exact ⟨rfl, trivial⟩
  · exact ⟨⟨by omega, fun j _ h => by omega⟩, hst⟩
  · clear hst; rintro k j w3 ⟨⟨hk, h0⟩, hst⟩; refine W.sr rfl<|hst.yb rfl (Y.lss rfl rfl) (fun b9 hb9 => Ops.done rfl<|W.seq rfl<|?_); cases b9
    · replace hb9 := dF hb9; refine W.condF rfl rfl<|W.exit rfl<|W.sr rfl<|hst.y rfl (Y.assignI rfl)<|Ops.done rfl<|W.ret rfl<|⟨_, Rslt.one results60 rfl, ?_⟩; exact ⟨ret_int (idxI_no (fun j h => h0 j h (by omega))).symm, hst⟩
    · replace hb9 := dT hb9; refine W.condT rfl rfl<|W.skip rfl<|W.seq rfl<|W.block rfl<|W.sr rfl<|hst.y rfl (Y.moveI rfl)<|hst.y rfl (Y.assignI rfl)<|Ops.done rfl<|W.seq rfl<|?_; have hk1 : k < l.length := by omega
      have hget : l.getD k 0 = l[k] := by simp [hk1]
      refine W.region rfl<|hst.y rfl (Y.moveI rfl)<|hst.y rfl (Y.moveS rfl)<|hst.y rfl (Y.moveI rfl)<|hst.y rfl (Y.indexAddr underlying24 sizeOf3 rfl rfl ((hr.sl hst).ne (by simp [ivs]; omega)) (by omega))<|?_; refine hst.y rfl (Y.loadSl isAgg3 rfl hr (ivs_get hk1))<|hst.yb rfl (Y.eql rfl rfl) (fun b16 hb16 => Ops.done rfl<|?_); cases b16
      · replace hb16 := dF hb16; refine W.condF rfl rfl<|W.skip rfl<|W.region rfl<|hst.y rfl (Y.addI rfl rfl (by omega))<|hst.y rfl (Y.moveI rfl)<|Ops.done rfl<|?_; refine ⟨k + 1, ⟨rfl, trivial⟩, ⟨rfl, rfl, rfl, trivial⟩, ⟨⟨by omega, fun j hj h => ?_⟩, hst⟩, by omega⟩; rcases (show j < k ∨ j = k by omega) with h | rfl
        · exact h0 j hj h
        · exact decide_eq_false (fun h => hb16 (by rw [h]; exact hget.symm))
      · replace hb16 := dT hb16; refine W.condT rfl rfl<|W.sr rfl<|hst.y rfl (Y.moveI rfl)<|hst.y rfl (Y.assignI rfl)<|Ops.done rfl<|W.ret rfl<|⟨_, Rslt.one results60 rfl, ?_⟩; exact ⟨ret_int (idxI_at hk1 (decide_eq_true (hb16.trans hget)) h0).symm, hst⟩
theorem ex_mem {α : Type} [DecidableEq α] (v : α) (l : List α) [Decidable (v ∈ l)] : decide (idxI (fun x => decide (v = x)) l ≥ 0) = decide (v ∈ l) := by
  rw [idxI_ex, decide_eq_decide]; simp
theorem contains_int (l : List Int) (hl : l.length ≤ 9223372036854775806) (A : Option Addr) (cap : Nat) (v : Int) (w0 w : World) (F0 : List Nat) (L G : List Res) (hst : St w0 F0 w L G) (hr : Rds L G (.slice A l.length cap) l.length (ivs l)) :
    Calls Tryz.prog 32 #[.slice A l.length cap, .int .i64 v] w fun e w' => ∃ b, e = .returned (.bool b) ∧ b = decide (v ∈ l) ∧ St w0 F0 w' L G := by
  refine W.func func32 rfl ntmps32 rfl<|W.sr rfl<|hst.y rfl (Y.assignB rfl)<|Ops.ds rfl rfl<|hst.y rfl (Y.moveS rfl)<|hst.y rfl (Y.moveI rfl)<|Ops.ww rfl (X.ret cf60 (index_int l hl _ _ _ _ _ _ _ _ hst hr) rfl fun w7 hst => hst.yb rfl (Y.geq rfl rfl) (fun b8 hb8 => hst.y rfl (Y.assignB rfl)<|Ops.done rfl<|W.ret rfl<|⟨_, Rslt.one results32 rfl, ?_⟩)); exact ⟨_, rfl, hb8.trans (ex_mem v l), hst⟩
theorem index_way (l : List (Int × Int)) (hl : l.length ≤ 9223372036854775806) (A : Option Addr) (cap : Nat) (v : Int × Int) (w0 w : World) (F0 : List Nat) (L G : List Res) (hst : St w0 F0 w L G) (hr : Rds L G (.slice A l.length cap) l.length (lcs l)) :
    Calls Tryz.prog 79 #[.slice A l.length cap, .agg #[.int .i64 v.1, .int .i64 v.2]] w fun e w' => e = .returned (.int .i64 (idxI (fun x => decide (v = x)) l)) ∧ St w0 F0 w' L G := by
  refine W.func func79 rfl ntmps79 rfl<|W.sr rfl<|Ops.ww rfl (X.boxA hst rfl fun p3 w3 hst => hst.y rfl (Y.assignI rfl)<|Ops.done rfl<|W.seq rfl<|W.sr rfl<|hst.y rfl (Y.moveS rfl)<|hst.y rfl (Y.lenS underlying25 rfl)<|hst.y rfl (Y.moveI rfl)<|Ops.done rfl<|W.block rfl<|?_); refine W.loop (γ := Nat) [(0, .slice _ _ _), (3, .pointer _), (7, .int _ _)] (fun k => [(8, .int .i64 (k : Int))]) (fun k w => (k ≤ l.length ∧ ∀ j (h : j < l.length), j < k → decide (v = l[j]) = false) ∧ St w0 F0 w (cellsR p3 [.int .i64 v.1, .int .i64 v.2] 77 :: L) G) (fun k => l.length - k) (0) rfl ⟨rfl, rfl, rfl, trivial⟩ ?_ ?_ ?_
  · exact ⟨rfl, trivial⟩
  · exact ⟨⟨by omega, fun j _ h => by omega⟩, hst⟩
  · clear hst; rintro k j w3 ⟨⟨hk, h0⟩, hst⟩; refine W.sr rfl<|hst.yb rfl (Y.lss rfl rfl) (fun b9 hb9 => Ops.done rfl<|W.seq rfl<|?_); cases b9
    · replace hb9 := dF hb9; refine W.condF rfl rfl<|W.exit rfl<|W.sr rfl<|hst.y rfl (Y.assignI rfl)<|Ops.done rfl<|W.ret rfl<|⟨_, Rslt.one results79 rfl, ?_⟩; exact ⟨ret_int (idxI_no (fun j h => h0 j h (by omega))).symm, (hst.dr 1)⟩
    · replace hb9 := dT hb9; refine W.condT rfl rfl<|W.skip rfl<|W.seq rfl<|W.block rfl<|W.sr rfl<|hst.y rfl (Y.moveI rfl)<|hst.y rfl (Y.assignI rfl)<|Ops.done rfl<|W.seq rfl<|?_; have hk1 : k < l.length := by omega
      have hget : lp l k = l[k] := by simp [lp, hk1]
      refine hst.dv [] (T0 [0,1,2,3,4,5] .nil) rfl (by kernel_rfl) rfl (by kernel_rfl) fun wd hst => ?_; refine hst.z rfl (Y.loadA 0 isAgg77 sizeOf77 rfl rfl rfl rfl)<|hst.z rfl (Y.moveS rfl)<|hst.z rfl (Y.moveI rfl)<|hst.z rfl (Y.indexAddr underlying25 sizeOf77 rfl rfl (((hr.cons _).sl hst).ne (by rw [lcs_length]; omega)) (by omega))<|?_; refine hst.z rfl (Y.loadSlA isAgg77 sizeOf77 rfl (hr.cons _) (lcs_two hk1) rfl)<|Drw.yb rfl rfl rfl hst.ctx (Y.eq2 eqg_way eq2_way rfl rfl) (fun b16 hb16 => Drw.done<|?_); cases b16
      · replace hb16 := dF hb16; refine W.condF rfl rfl<|W.skip rfl<|W.region rfl<|hst.y rfl (Y.addI rfl rfl (by omega))<|hst.y rfl (Y.moveI rfl)<|Ops.done rfl<|?_; refine ⟨k + 1, ⟨rfl, trivial⟩, ⟨rfl, rfl, rfl, trivial⟩, ⟨⟨by omega, fun j hj h => ?_⟩, hst⟩, by omega⟩; rcases (show j < k ∨ j = k by omega) with h | rfl
        · exact h0 j hj h
        · exact decide_eq_false (fun h => hb16 (by have h2 := hget.trans h.symm; exact ⟨(congrArg Prod.fst h2).symm, (congrArg Prod.snd h2).symm⟩))
      · replace hb16 := dT hb16; refine W.condT rfl rfl<|W.sr rfl<|hst.y rfl (Y.moveI rfl)<|hst.y rfl (Y.assignI rfl)<|Ops.done rfl<|W.ret rfl<|⟨_, Rslt.one results79 rfl, ?_⟩; exact ⟨ret_int (idxI_at hk1 (decide_eq_true (Prod.ext (hb16.1.trans (congrArg Prod.fst hget)) (hb16.2.trans (congrArg Prod.snd hget)))) h0).symm, (hst.dr 1)⟩
theorem contains_way (l : List (Int × Int)) (hl : l.length ≤ 9223372036854775806) (A : Option Addr) (cap : Nat) (v : Int × Int) (w0 w : World) (F0 : List Nat) (L G : List Res) (hst : St w0 F0 w L G) (hr : Rds L G (.slice A l.length cap) l.length (lcs l)) :
    Calls Tryz.prog 57 #[.slice A l.length cap, .agg #[.int .i64 v.1, .int .i64 v.2]] w fun e w' => ∃ b, e = .returned (.bool b) ∧ b = decide (v ∈ l) ∧ St w0 F0 w' L G := by
  refine W.func func57 rfl ntmps57 rfl<|W.sr rfl<|Ops.ww rfl (X.boxA hst rfl fun p3 w3 hst => hst.y rfl (Y.assignB rfl)<|Ops.ds rfl rfl<|hst.y rfl (Y.moveS rfl)<|hst.y rfl (Y.loadA 0 isAgg77 sizeOf77 rfl rfl rfl rfl)<|Ops.ww rfl (X.ret cf79 (index_way l hl _ _ v _ _ _ _ _ hst (hr.cons _)) rfl fun w7 hst => hst.yb rfl (Y.geq rfl rfl) (fun b8 hb8 => hst.y rfl (Y.assignB rfl)<|Ops.done rfl<|W.ret rfl<|⟨_, Rslt.one results57 rfl, ?_⟩))); exact ⟨_, rfl, hb8.trans (ex_mem v l), (hst.dr 1)⟩
theorem infoLeap2 : (Tryz.prog.info? 114).map (fun i => (i.zero, i.size, i.bytes)) = some (some (.agg #[.int .i64 0, .int .i64 0]), 2, 16) := by kernel_rfl
theorem lcs_ones (l : List (Int × Int)) : ∀ u ∈ lcs l, u.oneCell' = true := by
  intro u hu; simp only [lcs, List.mem_flatMap, List.mem_cons, List.not_mem_nil, or_false] at hu; obtain ⟨x, _, rfl | rfl⟩ := hu <;> rfl
theorem clone_nil (cap : Nat) (tab : List (Int × Int)) (hl : tab.length ≤ 1000000) (w0 w : World) (F0 : List Nat) (L G : List Res) (hst : St w0 F0 w L G) (hr : Rds L G (.slice none tab.length cap) tab.length (lcs tab)) :
    Calls Tryz.prog 40 #[.slice none tab.length cap] w fun e w' => ∃ A' c', e = .returned (.slice A' tab.length c') ∧ St w0 F0 w' L (rowR (.slice A' tab.length c') 114 2 tab.length (lcs tab) :: G) := by
  have h0 : tab = [] := by
    obtain ⟨A, c, he, _, hA⟩ := hr.sl hst; injection he with he; subst he; rcases tab with _ | ⟨x, tab⟩
    · rfl
    · obtain ⟨ad, h, _⟩ := hA (by simp [lcs]); cases h
  subst h0; refine W.func func40 rfl ntmps40 rfl<|W.sr rfl<|hst.y rfl (Y.assignS rfl)<|Ops.done rfl<|W.seq rfl<|W.sr rfl<|hst.y rfl (Y.moveS rfl)<|hst.y rfl (Y.nilS underlying41 rfl)<|Ops.done rfl<|W.condT rfl rfl<|W.sr rfl<|hst.y rfl (Y.assignS rfl)<|Ops.done rfl<|W.ret rfl<|⟨_, Rslt.one results40 rfl, ?_⟩; exact ⟨none, 0, rfl, (hst.nilRow _ 2).toFact⟩
theorem clone_some (a : Addr) (cap : Nat) (tab : List (Int × Int)) (hl : tab.length ≤ 1000000) (w0 w : World) (F0 : List Nat) (L G : List Res) (hst : St w0 F0 w L G) (hr : Rds L G (.slice (some a) tab.length cap) tab.length (lcs tab)) :
    Calls Tryz.prog 40 #[.slice (some a) tab.length cap] w fun e w' => ∃ A' c', e = .returned (.slice A' tab.length c') ∧ St w0 F0 w' L (rowR (.slice A' tab.length c') 114 2 tab.length (lcs tab) :: G) := by
  refine W.func func40 rfl ntmps40 rfl<|W.sr rfl<|hst.y rfl (Y.assignS rfl)<|Ops.done rfl<|W.seq rfl<|W.sr rfl<|hst.y rfl (Y.moveS rfl)<|hst.y rfl (Y.nilS underlying41 rfl)<|Ops.done rfl<|W.condF rfl rfl<|W.skip rfl<|W.sr rfl<|Ops.ww rfl (X.litRow hst underlying41 sizeOf114 fun p5 w5 hst => hst.y rfl (Y.moveS rfl)<|Ops.ww rfl (X.append hst 0 underlying41 infoLeap2 rfl rfl rfl rfl rfl (hr.cons _) (lcs_length _) (lcs_ones _) (by unfold maxLen; omega) (by omega)<|?_)); clear hst; intro v7 w7 hst; rw [Nat.zero_add, List.nil_append] at hst; obtain ⟨A7, c7, rfl, -⟩ := rowR_shape (hst.res _ (List.Mem.head _)); refine hst.y rfl (Y.assignS rfl)<|Ops.done rfl<|W.ret rfl<|⟨_, Rslt.one results40 rfl, ?_⟩; exact ⟨A7, c7, rfl, hst.toFact⟩
theorem clone_any (A : Option Addr) (cap : Nat) (tab : List (Int × Int)) (hl : tab.length ≤ 1000000) (w0 w : World) (F0 : List Nat) (L G : List Res) (hst : St w0 F0 w L G) (hr : Rds L G (.slice A tab.length cap) tab.length (lcs tab)) :
    Calls Tryz.prog 40 #[.slice A tab.length cap] w fun e w' => ∃ A' c', e = .returned (.slice A' tab.length c') ∧ St w0 F0 w' L (rowR (.slice A' tab.length c') 114 2 tab.length (lcs tab) :: G) := by
  cases A with
  | none => exact clone_nil cap tab hl w0 w F0 L G hst hr
  | some a => exact clone_some a cap tab hl w0 w F0 L G hst hr
end Go.Proofs.YtaanjifekgfemaaGreat.Cl
end
