/- The base of this seat's walks, anew: code over an environment of slots; the code is told by paths. -/
import Derived.Test.YtkbkgpedpaodlaaK5
import Derived.Deep.LoopGhost
set_option linter.unusedVariables false
set_option linter.unusedSimpArgs false
namespace Go.Proofs.Ytkbkgpedpaodlaa.K
open Go.RowKit

/-! ### Environments -/
abbrev Env := Nat → Value
def upd (ρ : Env) (d : Nat) (v : Value) : Env := fun t => match Nat.beq t d with | true => v | false => ρ t
def nth : List Value → Nat → Value
  | [], _ => undef
  | v :: _, 0 => v
  | _ :: l, n + 1 => nth l n
def env (vs : List Value) : Env := fun t => nth vs t
def upds (ρ : Env) : List (Nat × Value) → Env
  | [] => ρ
  | p :: l => upd (upds ρ l) p.1 p.2
def Agr (ρ : Env) : List (Nat × Value) → Prop
  | [] => True
  | p :: l => ρ p.1 = p.2 ∧ Agr ρ l
def ev (ρ : Env) : Operand → Value
  | .tmp t => ρ t
  | .const v => v
  | .global g => .pointer (some ⟨g, 0, none⟩)
  | .func f => .func (.func f) #[] #[]
def putE (ρ : Env) : Option Nat → Value → Env
  | some d, v => upd ρ d v
  | none, _ => ρ

theorem upd_self (ρ : Env) (d : Nat) : upd ρ d (ρ d) = ρ := by
  funext t
  unfold upd
  split
  · rename_i h; rw [Nat.eq_of_beq_eq_true h]
  · rfl
theorem Agr.upds {ρ : Env} : ∀ {l : List (Nat × Value)}, Agr ρ l → upds ρ l = ρ
  | [], _ => rfl
  | p :: l, h => by
    have ih := Agr.upds h.2
    show upd (K.upds ρ l) p.1 p.2 = ρ
    rw [ih, ← h.1, upd_self]
/-! ### Frames -/
/-- How many slots a frame has, and what it has deferred. -/
structure Fr where
  k : Nat
  D : List Deferred
  /-- so many low slots stay: they are known where it panics -/
  m : Nat
structure Is (n : Fr) (a : Act) (ρ : Env) : Prop where
  size : a.tmps.size = n.k
  defers : a.defers = n.D
  get : ∀ t, a.tmps.getD t undef = ρ t
theorem Is.eval {n : Fr} {a : Act} {ρ : Env} (h : Is n a ρ) : a.eval = ev ρ := by
  funext x
  cases x <;> simp [Act.eval, ev, h.get]
theorem Is.put {n : Fr} {a : Act} {ρ : Env} (h : Is n a ρ) {d : Nat} (hd : d < n.k) (v : Value) : Is n (a.put (some d) v) (upd ρ d v) := by
  refine ⟨by simp [Act.put, h.size], h.defers, fun t => ?_⟩
  unfold upd
  split
  · rename_i e
    rw [Nat.eq_of_beq_eq_true e]
    have := h.size
    simp [Act.put, Array.getD, hd, this]
  · rename_i e
    have hne : d ≠ t := fun x => by subst x; rw [Nat.beq_refl] at e; cases e
    rw [← h.get t]
    simp only [Act.put, Array.getD_eq_getD_getElem?]
    rw [Array.getElem?_setIfInBounds_ne hne]
def okD (n : Fr) : Option Nat → Bool
  | some d => Nat.blt d n.k && Nat.ble n.m d
  | none => true
theorem Is.putE {n : Fr} {a : Act} {ρ : Env} (h : Is n a ρ) {d : Option Nat} (hd : okD n d = true) (v : Value) : Is n (a.put d v) (putE ρ d v) := by
  cases d with
  | none => exact h
  | some d => exact h.put (by simp [okD, Nat.blt_eq] at hd; exact hd.1) v

/-! ### Code by paths -/
def cA : Code → Code
  | .seq a _ => a
  | .cond _ a _ => a
  | .block _ a => a
  | .loop a => a
  | _ => .skip
def cB : Code → Code
  | .seq _ b => b
  | .cond _ _ b => b
  | _ => .skip
def cId : Code → Nat
  | .region i _ _ => i
  | .block i _ => i
  | .exit i => i
  | _ => 0
def cOps : Code → Array Oper
  | .region _ o _ => o
  | _ => #[]
def cC : Code → Operand
  | .cond c _ _ => c
  | _ => .tmp 0
def tag : Code → Nat
  | .skip => 0
  | .region _ _ false => 1
  | .region _ _ true => 2
  | .seq .. => 3
  | .cond .. => 4
  | .block .. => 5
  | .loop .. => 6
  | .exit .. => 7
  | .ret => 8
  | _ => 9
def fbody (fn : Func) : Code := fn.body.getD .skip
def opat (c : Code) (i : Nat) : Option Oper := (cOps c).toList[i]?

abbrev Post := Exit → Env → World → Prop
/-- Q of an environment, as a post of a frame. -/
def lift (n : Fr) (Q : Post) : Exit → Act → World → Prop
  | .panic ch, a, w => ∃ ρ, (a.defers = n.D ∧ ∀ t, t < n.m → a.tmps.getD t undef = ρ t) ∧ Q (.panic ch) ρ w
  | e, a, w => ∃ ρ, Is n a ρ ∧ Q e ρ w
structure W (P : Program) (n : Fr) (c : Code) (Q : Post) (ρ : Env) (w : World) : Prop where
  out : ∀ a, Is n a ρ → c.wp P (lift n Q) a w
def thenQ (next : Env → World → Prop) (Q : Post) : Post
  | .normal, ρ, w => next ρ w
  | e, ρ, w => Q e ρ w
def blkQ (id : Nat) (Q : Post) : Post
  | .exit id', ρ, w => match Nat.beq id' id with | true => Q .normal ρ w | false => Q (.exit id') ρ w
  | e, ρ, w => Q e ρ w

section
variable {P : Program} {n : Fr} {c : Code} {Q : Post} {ρ : Env} {w : World}
theorem lift_mono {Q Q' : Post} (h : ∀ e ρ w, Q e ρ w → Q' e ρ w) : ∀ e a w, lift n Q e a w → lift n Q' e a w := by
  intro e a w hq
  cases e <;> (obtain ⟨ρ, h1, h2⟩ := hq; exact ⟨ρ, h1, h _ _ _ h2⟩)
theorem W.mono {Q' : Post} (h : W P n c Q ρ w) (hq : ∀ e ρ w, Q e ρ w → Q' e ρ w) : W P n c Q' ρ w :=
  ⟨fun a ha => Code.wp_mono (lift_mono hq) (h.out a ha)⟩
theorem W.skip (ht : tag c = 0) (h : Q .normal ρ w) : W P n c Q ρ w := by
  cases c with
  | skip => exact ⟨fun a ha => wp_skip ⟨ρ, ha, h⟩⟩
  | region _ _ b => cases b <;> cases ht
  | _ => cases ht
theorem W.exit (ht : tag c = 7) (h : Q (.exit (cId c)) ρ w) : W P n c Q ρ w := by
  cases c with
  | exit _ => exact ⟨fun a ha => wp_exit ⟨ρ, ha, h⟩⟩
  | region _ _ b => cases b <;> cases ht
  | _ => cases ht
theorem W.ret (ht : tag c = 8) (h : Q .ret ρ w) : W P n c Q ρ w := by
  cases c with
  | ret => exact ⟨fun a ha => wp_ret ⟨ρ, ha, h⟩⟩
  | region _ _ b => cases b <;> cases ht
  | _ => cases ht
theorem W.seq (ht : tag c = 3) (h : W P n (cA c) (thenQ (fun ρ w => W P n (cB c) Q ρ w) Q) ρ w) : W P n c Q ρ w := by
  cases c with
  | region _ _ b => cases b <;> cases ht
  | seq x y =>
    refine ⟨fun a ha => wp_seq (Code.wp_mono ?_ (h.out a ha))⟩
    intro e a w hq
    cases e with
    | normal => obtain ⟨ρ', h1, h2⟩ := hq; exact h2.out a h1
    | _ => exact hq
  | _ => cases ht
theorem W.cond {b : Bool} (ht : tag c = 4) (hb : ev ρ (cC c) = .bool b) (h1 : b = true → W P n (cA c) Q ρ w) (h2 : b = false → W P n (cB c) Q ρ w) : W P n c Q ρ w := by
  cases c with
  | region _ _ b => cases b <;> cases ht
  | cond _ _ _ =>
    refine ⟨fun a ha => wp_cond_split (t := b) (by rw [ha.eval]; exact hb) (fun h => (h1 h).out a ha) (fun h => (h2 h).out a ha)⟩
  | _ => cases ht
theorem W.condT (ht : tag c = 4) (hb : ev ρ (cC c) = .bool true) (h : W P n (cA c) Q ρ w) : W P n c Q ρ w := W.cond ht hb (fun _ => h) (fun h => by cases h)
theorem W.condF (ht : tag c = 4) (hb : ev ρ (cC c) = .bool false) (h : W P n (cB c) Q ρ w) : W P n c Q ρ w := W.cond ht hb (fun h => by cases h) (fun _ => h)
theorem W.block (ht : tag c = 5) (h : W P n (cA c) (blkQ (cId c) Q) ρ w) : W P n c Q ρ w := by
  cases c with
  | region _ _ b => cases b <;> cases ht
  | block id b =>
    refine ⟨fun a ha => wp_block (Code.wp_mono ?_ (h.out a ha))⟩
    intro e a w hq
    cases e with
    | exit id' =>
      obtain ⟨ρ', h1, h2⟩ := hq
      simp only [blkQ, cId] at h2
      simp only [Exit.inBlock]
      split at h2
      · rename_i e; rw [if_pos (Nat.eq_of_beq_eq_true e)]; exact ⟨ρ', h1, h2⟩
      · rename_i e; rw [if_neg (fun x => by subst x; rw [Nat.beq_refl] at e; cases e)]; exact ⟨ρ', h1, h2⟩
    | _ => exact hq
  | _ => cases ht
theorem forget {ρ : Env} {kv l : List (Nat × Value)} (h1 : Agr ρ kv) (h2 : Agr ρ l) : upds (upds ρ kv) l = ρ := by
  rw [h1.upds, h2.upds]
/-- A loop: what is kept, what its slots hold, what else holds, what shrinks. -/
theorem W.loop {γ : Type} (kv : List (Nat × Value)) (sl : γ → List (Nat × Value)) (R : γ → World → Prop) (μ : γ → Nat) (x0 : γ) (ht : tag c = 6) (hk : Agr ρ kv) (hs : Agr ρ (sl x0)) (h0 : R x0 w)
    (round : ∀ x j w, R x w → W P n (cA c) (thenQ (fun ρ' w' => ∃ x', Agr ρ' (sl x') ∧ Agr ρ' kv ∧ R x' w' ∧ μ x' < μ x) Q) (upds (upds j kv) (sl x)) w) : W P n c Q ρ w := by
  cases c with
  | region _ _ b => cases b <;> cases ht
  | loop c =>
    refine ⟨fun a ha => ?_⟩
    refine wp_loop_ghost (fun k a w => ∃ x, ∃ j, Is n a (upds (upds j kv) (sl x)) ∧ R x w ∧ μ x = k) (μ x0) ?_ ?_
    · exact ⟨x0, ρ, by rw [forget hk hs]; exact ha, h0, rfl⟩
    · rintro k a w ⟨x, j, ha, hR, rfl⟩
      refine Code.wp_mono ?_ ((round x j w hR).out a ha)
      intro e a w hq
      cases e with
      | normal =>
        obtain ⟨ρ', h1, x', h2, h3, h4, h5⟩ := hq
        exact ⟨_, h5, x', ρ', by rw [forget h3 h2]; exact h1, h4, rfl⟩
      | _ => exact hq
  | _ => cases ht

/-! ### A piece of code by what it leaves -/
theorem W.cut {γ : Type} (kv : List (Nat × Value)) (sl : γ → List (Nat × Value)) (R : γ → World → Prop) (hk : Agr ρ kv)
    (h : W P n c (thenQ (fun ρ' w' => ∃ x, Agr ρ' (sl x) ∧ Agr ρ' kv ∧ R x w') Q) ρ w)
    (k : ∀ x j w', R x w' → Q .normal (upds (upds j kv) (sl x)) w') : W P n c Q ρ w :=
  h.mono fun e ρ' w' hq => by
    cases e with
    | normal => obtain ⟨x, h1, h2, h3⟩ := hq; rw [← forget h2 h1]; exact k x ρ' w' h3
    | _ => exact hq
/-- The environment anew: what is not told is forgotten. -/
theorem W.fresh (kv : List (Nat × Value)) (hk : Agr ρ kv) (h : ∀ j, W P n c Q (upds j kv) w) : W P n c Q ρ w := by
  have := h ρ; rwa [hk.upds] at this

/-! ### Functions -/
/-- What a function's frame hands back. -/
def Rslt (P : Program) (fn : Func) (ρ : Env) (w : World) (v : Value) : Prop := ∀ (n : Fr) a, Is n a ρ → (results fn a.tmps).run P w = .ok v w
theorem Rslt.none {fn : Func} (h : fn.results = #[]) : Rslt P fn ρ w (.tuple #[]) := fun n a ha => by simp [results, h]
theorem Rslt.one {fn : Func} {t : Tmp} (h : fn.results = #[.tmp t]) {v : Value} (hv : ρ t = v) : Rslt P fn ρ w v := fun n a ha => by
  subst hv; rw [← ha.get t]; simp [results, h]
theorem Rslt.two {fn : Func} {t u : Tmp} (h : fn.results = #[.tmp t, .tmp u]) {v v' : Value} (hv : ρ t = v) (hu : ρ u = v') : Rslt P fn ρ w (.tuple #[v, v']) := fun n a ha => by
  subst hv; subst hu; rw [← ha.get t, ← ha.get u]; simp [results, h]
theorem Rslt.cell {fn : Func} {t : Tmp} {ty : TypeId} (h : fn.results = #[.cell t ty]) {ad : Addr} (ht : ρ t = .pointer (some ad)) {v : Value} (hr : (loadVar ty ad).run P w = .ok v w) : Rslt P fn ρ w v := fun n a ha => by
  have h2 : a.tmps.getD t undef = .pointer (some ad) := by rw [ha.get, ht]
  rw [Array.getD_eq_getD_getElem?] at h2
  simp [results, h, h2, asAddr, hr]
theorem Rslt.cellTmp {fn : Func} {t u : Tmp} {ty : TypeId} (h : fn.results = #[.cell t ty, .tmp u]) {ad : Addr} (ht : ρ t = .pointer (some ad)) {v v' : Value} (hr : (loadVar ty ad).run P w = .ok v w) (hu : ρ u = v') : Rslt P fn ρ w (.tuple #[v, v']) := fun n a ha => by
  have h2 : a.tmps.getD t undef = .pointer (some ad) := by rw [ha.get, ht]
  subst hu
  rw [← ha.get u]
  rw [Array.getD_eq_getD_getElem?] at h2
  simp [results, h, h2, asAddr, hr]
def FQ (P : Program) (fn : Func) (R : Ending → World → Prop) : Post
  | .normal, ρ, w => ∃ v, Rslt P fn ρ w v ∧ R (.returned v) w
  | .ret, ρ, w => ∃ v, Rslt P fn ρ w v ∧ R (.returned v) w
  | .panic chain, _, w => R (.panicked chain) w
  | _, _, _ => False
theorem Is.enter {fn : Func} {args : List Value} {n : Nat} (hn : fn.ntmps = n) (hle : args.length ≤ n) : Is ⟨n, [], 0⟩ { tmps := args.toArray ++ Array.replicate (fn.ntmps - args.toArray.size) undef, defers := [] } (env args) := by
  refine ⟨?_, rfl, fun t => ?_⟩
  · simp [hn]; omega
  · have key : ∀ (l : List Value) (k t : Nat), (l ++ List.replicate k undef)[t]?.getD undef = nth l t := by
      intro l
      induction l with
      | nil => intro k t; simp only [List.nil_append, nth, List.getElem?_replicate]; split <;> rfl
      | cons v l ih =>
        intro k t
        cases t with
        | zero => simp [nth]
        | succ t => simpa [nth] using ih k t
    have := key args (fn.ntmps - args.length) t
    simp only [Array.getD_eq_getD_getElem?, env]
    rw [← this]
    congr 1
    simp [← Array.getElem?_toList]

theorem W.func {f : FuncId} {fn : Func} {args : List Value} {R : Ending → World → Prop} {n : Nat} (hf : P.funcs[f]? = some fn) (hb : fn.body.isSome = true) (hn : fn.ntmps = n) (hl : Nat.ble args.length n = true)
    (h : W P ⟨n, [], 0⟩ (fbody fn) (FQ P fn R) (env args) w) : Calls P f args.toArray w R := by
  obtain ⟨c, hc⟩ := Option.isSome_iff_exists.1 hb
  have hle : args.length ≤ n := Nat.le_of_ble_eq_true hl
  refine calls_of_wp hf hc ?_
  have hfb : fbody fn = c := by simp [fbody, hc]
  rw [hfb] at h
  refine Code.wp_mono ?_ (h.out _ (Is.enter hn hle))
  · intro e a w hq
    cases e with
    | normal => obtain ⟨ρ, h1, v, h2, h3⟩ := hq; exact ⟨h1.defers, v, h2 _ _ h1, h3⟩
    | ret => obtain ⟨ρ, h1, v, h2, h3⟩ := hq; exact ⟨h1.defers, v, h2 _ _ h1, h3⟩
    | panic ch => obtain ⟨ρ, ⟨h1, _⟩, h2⟩ := hq; exact ⟨h1, h2⟩
    | exit _ => obtain ⟨_, _, h⟩ := hq; exact h
    | goto _ => obtain ⟨_, _, h⟩ := hq; exact h
    | outgrown => obtain ⟨_, _, h⟩ := hq; exact h.elim

/-! ### Operations -/
def wants (c : Code) (ρ : Env) : Option (Nat × Bool) → Bool
  | none => true
  | some (j, want) => match opat c j with
    | some o => (match o.dst with
      | some d => (match ρ d with
        | .bool b => (match b with | true => want | false => !want)
        | _ => false)
      | none => false)
    | none => false
theorem wants_eq {a : Act} {o : Oper} (ha : Is n a ρ) : Region.wanted o (yielded (cOps c) a.tmps) = wants c ρ o.guard := by
  unfold Region.wanted wants
  rcases o.guard with _ | ⟨j, want⟩
  · rfl
  · dsimp only
    unfold yielded opat
    rw [Array.getElem?_toList]
    rcases (cOps c)[j]? with _ | o
    · rfl
    · dsimp only [Option.bind]
      rcases o.dst with _ | d
      · rfl
      · dsimp only
        have h := ha.get d
        rw [Array.getD_eq_getD_getElem?] at h
        rw [← h]
        rcases a.tmps[d]? with _ | v
        · rfl
        · dsimp only [Option.getD]
          cases v <;> first
            | rfl
            | (rename_i b; cases b <;> cases want <;> rfl)

/-- What one operation gives, in every world that meets S, the world staying. -/
def Y (P : Program) (S : World → Prop) (ρ : Env) (op : Op) (ty : TypeId) (v : Value) : Prop :=
  ∀ w, S w → ∀ o : Oper, o.op = op → o.type = ty → (execOp (ev ρ) o).run P w = .ok (.value v) w
/-- What one operation does. -/
def X (P : Program) (ρ : Env) (w : World) (op : Op) (ty : TypeId) (K : Value → World → Prop) : Prop :=
  ∀ (a : Act) (ops : Array Oper) (Q : Exit → Act → World → Prop) (o : Oper), o.op = op → o.type = ty → a.eval = ev ρ → Region.wanted o (yielded ops a.tmps) = true →
    opK P ops Q o (fun a' w' => ∃ v, a' = a.put o.dst v ∧ K v w') a w

structure Ops (P : Program) (n : Fr) (c : Code) (Q : Post) (i : Nat) (ρ : Env) (w : World) : Prop where
  out : ∀ a, Is n a ρ → wpList P (cOps c) (lift n Q) ((cOps c).toList.drop i) a w
theorem W.region (ht : tag c = 1) (h : Ops P n c Q 0 ρ w) : W P n c Q ρ w := by
  cases c with
  | region _ _ b =>
    cases b
    · exact ⟨fun a ha => wp_region_list (h.out a ha)⟩
    · cases ht
  | _ => cases ht
theorem Ops.done {i : Nat} (ho : opat c i = none) (h : Q .normal ρ w) : Ops P n c Q i ρ w := by
  refine ⟨fun a ha => ?_⟩
  have : (cOps c).toList.drop i = [] := by
    unfold opat at ho
    simp at ho
    simpa using ho
  rw [this]
  exact ⟨ρ, ha, h⟩
theorem opat_drop {i : Nat} {o : Oper} (ho : opat c i = some o) : (cOps c).toList.drop i = o :: (cOps c).toList.drop (i + 1) := by
  unfold opat at ho
  have hi : i < (cOps c).toList.length := by
    rcases Nat.lt_or_ge i (cOps c).toList.length with h | h
    · exact h
    · rw [List.getElem?_eq_none h] at ho; cases ho
  rw [List.getElem?_eq_getElem hi] at ho
  injection ho with ho
  rw [← ho, List.drop_eq_getElem_cons hi]
theorem Ops.x {i : Nat} {d : Option Nat} {op : Op} {ty : TypeId} {ps : String} {af : Array Edge} {gd : Option (Nat × Bool)} (ho : opat c i = some ⟨d, op, ty, ps, af, gd⟩) (hw : wants c ρ gd = true) (hd : okD n d = true)
    (hx : X P ρ w op ty (fun v w' => Ops P n c Q (i + 1) (putE ρ d v) w')) : Ops P n c Q i ρ w := by
  refine ⟨fun a ha => ?_⟩
  rw [opat_drop ho]
  refine wpList_opK ?_
  have hw' := wants_eq (c := c) (o := ⟨d, op, ty, ps, af, gd⟩) ha
  rw [hw] at hw'
  have h := hx a (cOps c) (lift n Q) ⟨d, op, ty, ps, af, gd⟩ rfl rfl ha.eval hw'
  unfold opK at h ⊢
  rw [if_pos hw'] at h ⊢
  refine Oper.wp_mono ?_ h
  rintro a' w' ⟨v, rfl, h⟩
  exact h.out _ (ha.putE hd v)
theorem Ops.y {i : Nat} {d : Nat} {op : Op} {ty : TypeId} {ps : String} {af : Array Edge} {gd : Option (Nat × Bool)} {v : Value} {S : World → Prop} (ho : opat c i = some ⟨some d, op, ty, ps, af, gd⟩) (hw : wants c ρ gd = true) (hd : okD n (some d) = true)
    (hS : S w) (hy : Y P S ρ op ty v) (k : Ops P n c Q (i + 1) (upd ρ d v) w) : Ops P n c Q i ρ w := by
  refine Ops.x ho hw hd ?_
  intro a ops Q o h1 h2 h3 h4
  refine wpl h4 (v := v) (w' := w) ?_ ⟨v, rfl, k⟩
  rw [h3]
  exact hy w hS o h1 h2
theorem Ops.no {i : Nat} {d : Option Nat} {op : Op} {ty : TypeId} {ps : String} {af : Array Edge} {gd : Option (Nat × Bool)} (ho : opat c i = some ⟨d, op, ty, ps, af, gd⟩) (hw : wants c ρ gd = false) (hd : okD n d = true)
    (k : Ops P n c Q (i + 1) (putE ρ d undef) w) : Ops P n c Q i ρ w := by
  refine ⟨fun a ha => ?_⟩
  rw [opat_drop ho]
  unfold wpList
  have hw' := wants_eq (c := c) (o := ⟨d, op, ty, ps, af, gd⟩) ha
  rw [hw] at hw'
  rw [if_neg (by rw [hw']; decide)]
  exact k.out _ (ha.putE hd undef)

/-! ### Regions that draw their order -/
/-- Has nothing of the tail come up yet? -/
def tl (T : List Nat) (listed : Array Bool) : Bool := T.all fun t => !listed.getD t true
/-- Whatever order is picked from here on; S holds behind each operation as long as nothing of the tail T has come up. -/
def wpAnyT (P : Program) (ops : Array Oper) (Q : Exit → Act → World → Prop) (S : World → Prop) (T : List Nat) : Nat → Array Bool → Act → World → Prop
  | 0, listed, a, w => Region.ready .any ops listed = [] ∧ Q .normal a w
  | fuel + 1, listed, a, w => (Region.ready .any ops listed = [] → Q .normal a w) ∧
      ∀ i ∈ Region.ready .any ops listed, wpOp P ops Q i (fun a' w' => (tl T (listed.setIfInBounds i true) = true → S w') ∧ wpAnyT P ops Q S T fuel (listed.setIfInBounds i true) a' w') a w
theorem wpAny_ofT {ops : Array Oper} {Q : Exit → Act → World → Prop} {S : World → Prop} {T : List Nat} : ∀ (fuel : Nat) (listed : Array Bool) (a : Act) (w : World), wpAnyT P ops Q S T fuel listed a w → wpAny P .any ops Q fuel listed a w
  | 0, _, _, _, h => h
  | fuel + 1, _, _, _, h => ⟨h.1, fun i hi => wpOp_mono (fun _ _ h' => wpAny_ofT fuel _ _ _ h'.2) (h.2 i hi)⟩
/-- Does operation j wait for i? -/
def waits (ops : Array Oper) (i j : Nat) : Bool :=
  match ops[j]? with
  | some o => o.after.any fun e => Region.binds .any e && e.on == i
  | none => false
theorem tl_set {T : List Nat} {listed : Array Bool} {j : Nat} (hj : T.contains j = false) : tl T (listed.setIfInBounds j true) = tl T listed := by
  unfold tl
  rw [Bool.eq_iff_iff, List.all_eq_true, List.all_eq_true]
  refine forall_congr' fun t => forall_congr' fun ht => ?_
  rw [getD_set_ne true (fun e => by subst e; rw [List.contains_iff_mem.2 ht] at hj; cases hj)]
theorem waits_ready {ops : Array Oper} {i j : Nat} {listed : Array Bool} (hi : i ∈ Region.ready .any ops listed) (hj : j ∈ Region.ready .any ops listed) : waits ops i j = false := by
  obtain ⟨_, oj, hoj, hall⟩ := mem_ready.1 hj
  unfold waits
  rw [hoj]
  dsimp only
  rw [← Bool.not_eq_true]
  intro hany
  obtain ⟨e, he, hb⟩ := Array.any_eq_true'.1 hany
  simp only [Bool.and_eq_true, beq_iff_eq] at hb
  have h1 := hall e he hb.1
  rw [hb.2] at h1
  have h0 := (mem_ready.1 hi).1
  have hlt : i < listed.size := by
    rcases Nat.lt_or_ge i listed.size with h | h
    · exact h
    · simp [Array.getElem?_eq_none h] at h1
  simp [hlt] at h0 h1
  rw [h0] at h1
  cases h1
/-- An operation that may come up, and gives its value in every world that meets S', may come first: what is not apart from it waits for it; and so does all of the tail, or its value hangs on no world. -/
theorem wpAnyT_take {ops : Array Oper} {Q : Exit → Act → World → Prop} {S S' : World → Prop} {T : List Nat} {i : Nat} {oi : Oper} {v : Value} (hi : ops[i]? = some oi) (hsel : Region.noSelect ops = true) (hiT : T.contains i = false)
    (hQ : ∀ c a w, Q (.panic c) (a.put oi.dst v) w → Q (.panic c) a w) (hmode : (∀ w, S w → S' w) ∧ (∀ j, T.contains j = true → waits ops i j = true) ∨ (∀ w, S' w)) : ∀ (fuel : Nat) (listed : Array Bool) (a : Act) (w : World),
      (∀ j oj, ops[j]? = some oj → j ≠ i → listed.getD j true = false → waits ops i j = false → oi.apart ops oj = true) →
      (tl T listed = true ∨ ∀ w, S' w) → i ∈ Region.ready .any ops listed → YieldsIf P ops S' oi v a → (tl T listed = true → S w) →
      wpAnyT P ops Q S T fuel (listed.setIfInBounds i true) (a.put oi.dst v) w → wpAnyT P ops Q S T (fuel + 1) listed a w := by
  have hS' : ∀ (listed : Array Bool) (w : World), (tl T listed = true ∨ ∀ w, S' w) → (tl T listed = true → S w) → S' w := by
    intro listed w h1 h2
    rcases h1 with h1 | h1
    · rcases hmode with h3 | h3
      · exact h3.1 w (h2 h1)
      · exact h3 w
    · exact h1 w
  intro fuel
  induction fuel with
  | zero =>
    intro listed a w _ htl hr hy hS H
    refine ⟨fun h => (by rw [h] at hr; cases hr), fun j hj => ?_⟩
    rcases Nat.decEq j i with hji | hji
    · exact absurd (H.1 ▸ ready_mono hj hji) (by simp)
    · subst hji; exact hy.wpOp hi (hS' listed w htl hS) ⟨by rw [tl_set hiT]; exact hS, H⟩
  | succ fuel ih =>
    intro listed a w hfree htl hr hy hS H
    refine ⟨fun h => (by rw [h] at hr; cases hr), fun j hj => ?_⟩
    rcases Nat.decEq j i with hji | hji
    · have hwt := waits_ready hr hj
      obtain ⟨hjun, oj, hoj, hall⟩ := mem_ready.1 hj
      have hun : ∀ k, (listed.setIfInBounds j true).getD k true = false → listed.getD k true = false := by
        intro k hk
        rcases Nat.decEq j k with e | e
        · rwa [getD_set_ne true e] at hk
        · subst e; exact hjun
      refine wpOp_mono ?_ (wpOp_putIf hoj (hfree j oj hoj hji hjun hwt) (fun cs b => Region.noSelect_spec hsel i oi cs b hi) (fun cs b => Region.noSelect_spec hsel j oj cs b hoj) hQ hy (H.2 j (ready_mono hj hji)))
      rintro a' w' ⟨hy', hSj, hw'⟩
      rw [Array.setIfInBounds_comm _ _ (fun e => hji e.symm), tl_set hiT] at hSj
      refine ⟨hSj, ih (listed.setIfInBounds j true) a' w' (fun k ok hk hki hu hn => hfree k ok hk hki (hun k hu) hn) ?_ (ready_mono hr (fun e => hji e.symm)) hy' hSj ?_⟩
      · rcases hmode with h3 | h3
        · have hjT : T.contains j = false := by
            cases hc : T.contains j with
            | false => rfl
            | true => rw [h3.2 j hc] at hwt; cases hwt
          rw [tl_set hjT]; exact htl
        · exact .inr h3
      · rw [Array.setIfInBounds_comm _ _ hji]
        exact hw'
    · subst hji; exact hy.wpOp hi (hS' listed w htl hS) ⟨by rw [tl_set hiT]; exact hS, H⟩
/-- One operation comes up now. -/
def nxt (P : Program) (ops : Array Oper) (Q : Exit → Act → World → Prop) (S : World → Prop) (T : List Nat) (fuel : Nat) (listed : Array Bool) (i : Nat) (a : Act) (w : World) : Prop :=
  wpOp P ops Q i (fun a' w' => (tl T (listed.setIfInBounds i true) = true → S w') ∧ wpAnyT P ops Q S T fuel (listed.setIfInBounds i true) a' w') a w
theorem nxt_of {ops : Array Oper} {Q : Exit → Act → World → Prop} {S : World → Prop} {T : List Nat} {i : Nat} {o : Oper} {fuel : Nat} {listed : Array Bool} {a : Act} {w : World} (hi : ops[i]? = some o)
    (h : ∀ K' : Act → World → Prop, (∀ a w, (tl T (listed.setIfInBounds i true) = true → S w) → wpAnyT P ops Q S T fuel (listed.setIfInBounds i true) a w → K' a w) → opK P ops Q o K' a w) : nxt P ops Q S T fuel listed i a w := by
  unfold nxt wpOp
  simp only [hi]
  have h2 := h (fun a' w' => (tl T (listed.setIfInBounds i true) = true → S w') ∧ wpAnyT P ops Q S T fuel (listed.setIfInBounds i true) a' w') (fun _ _ h1 h2 => ⟨h1, h2⟩)
  unfold opK at h2
  split
  · rename_i hw; rw [if_pos hw] at h2; exact .inl h2
  · rename_i hw; rw [if_neg hw] at h2; exact h2

/-- The order that is walked. 'op i m': 0: what is quiet where S holds, and all of the tail waits for it; 1: what must be the only one that may come up; 2: what is quiet in every world. 'alt i r s': i may come up, and then r; or another one, as s tells. -/
inductive Tr where
  | nil
  | op (i m : Nat) (r : Tr)
  | alt (i : Nat) (r s : Tr)
def Tr.fuel : Tr → Nat
  | .nil => 0
  | .op _ _ r => r.fuel + 1
  | .alt _ r _ => r.fuel + 1
def Tr.heads : Tr → List Nat
  | .nil => []
  | .op i _ _ => [i]
  | .alt i _ s => i :: s.heads
/-- b: that these, and no others, may come up has been looked at. -/
def chk (ops : Array Oper) (T : List Nat) : Bool → Tr → Array Bool → Bool
  | _, .nil, listed => (Region.ready .any ops listed).isEmpty
  | true, .op i _ r, listed => chk ops T false r (listed.setIfInBounds i true)
  | false, .op i 1 r, listed => (Region.ready .any ops listed == [i]) && chk ops T false r (listed.setIfInBounds i true)
  | false, .op i m r, listed => (Region.free .any ops listed i && (!T.contains i && tl T listed && (m == 2 || T.all fun j => waits ops i j))) && ((Region.ready .any ops listed).contains i && chk ops T false r (listed.setIfInBounds i true))
  | b, .alt i r s, listed => (b || Region.ready .any ops listed == i :: s.heads) && (s.fuel == r.fuel + 1 && (chk ops T false r (listed.setIfInBounds i true) && chk ops T true s listed))
theorem chk_take {ops : Array Oper} {T : List Nat} {i m : Nat} {r : Tr} {listed : Array Bool} (hm : m ≠ 1) : chk ops T false (.op i m r) listed = ((Region.free .any ops listed i && (!T.contains i && tl T listed && (m == 2 || T.all fun j => waits ops i j))) && ((Region.ready .any ops listed).contains i && chk ops T false r (listed.setIfInBounds i true))) := by
  rcases m with _ | _ | m
  · rfl
  · exact absurd rfl hm
  · rfl
structure Drw (P : Program) (n : Fr) (c : Code) (Q : Post) (S : World → Prop) (T : List Nat) (ord : Tr) (ρ : Env) (w : World) : Prop where
  out : Region.noSelect (cOps c) = true → ∀ listed, chk (cOps c) T false ord listed = true → ∀ a, Is n a ρ → wpAnyT P (cOps c) (lift n Q) S T ord.fuel listed a w
/-- Operation i comes up now, and then r. -/
structure One (P : Program) (n : Fr) (c : Code) (Q : Post) (S : World → Prop) (T : List Nat) (i : Nat) (r : Tr) (ρ : Env) (w : World) : Prop where
  out : Region.noSelect (cOps c) = true → ∀ listed, chk (cOps c) T false r (listed.setIfInBounds i true) = true → (i ∈ Region.ready .any (cOps c) listed) → ∀ a, Is n a ρ → nxt P (cOps c) (lift n Q) S T r.fuel listed i a w
structure Alts (P : Program) (n : Fr) (c : Code) (Q : Post) (S : World → Prop) (T : List Nat) (t : Tr) (ρ : Env) (w : World) : Prop where
  out : Region.noSelect (cOps c) = true → ∀ listed, chk (cOps c) T true t listed = true → ∀ a, Is n a ρ → ∀ m, t.fuel = m + 1 → ∀ j ∈ t.heads, j ∈ Region.ready .any (cOps c) listed → nxt P (cOps c) (lift n Q) S T m listed j a w
theorem Alts.one {S : World → Prop} {T : List Nat} {i m : Nat} {r : Tr} (h : One P n c Q S T i r ρ w) : Alts P n c Q S T (.op i m r) ρ w := by
  refine ⟨fun hn listed hc a ha m hm j hj hr => ?_⟩
  simp only [Tr.fuel, Nat.add_right_cancel_iff] at hm
  simp only [Tr.heads, List.mem_singleton] at hj
  subst hm; subst hj
  exact h.out hn listed hc hr a ha
theorem Alts.more {S : World → Prop} {T : List Nat} {i : Nat} {r s : Tr} (h : One P n c Q S T i r ρ w) (k : Alts P n c Q S T s ρ w) : Alts P n c Q S T (.alt i r s) ρ w := by
  refine ⟨fun hn listed hc a ha m hm j hj hr => ?_⟩
  simp only [Tr.fuel, Nat.add_right_cancel_iff] at hm
  simp only [chk, Bool.true_or, Bool.true_and, Bool.and_eq_true, beq_iff_eq] at hc
  subst hm
  simp only [Tr.heads, List.mem_cons] at hj
  rcases hj with rfl | hj
  · exact h.out hn listed hc.2.1 hr a ha
  · exact k.out hn listed hc.2.2 a ha _ hc.1 j hj hr
theorem Drw.alts {S : World → Prop} {T : List Nat} {i : Nat} {r s : Tr} (h : Alts P n c Q S T (.alt i r s) ρ w) : Drw P n c Q S T (.alt i r s) ρ w := by
  refine ⟨fun hn listed hc a ha => ?_⟩
  have hc2 : chk (cOps c) T true (.alt i r s) listed = true := by
    simp only [chk, Bool.false_or, Bool.true_or, Bool.true_and, Bool.and_eq_true] at hc ⊢
    exact hc.2
  have hrd : Region.ready .any (cOps c) listed = (Tr.alt i r s).heads := by
    simp only [chk, Bool.false_or, Bool.and_eq_true, beq_iff_eq] at hc
    exact hc.1
  refine ⟨fun h => (by rw [hrd] at h; cases h), fun j hj => ?_⟩
  exact h.out hn listed hc2 a ha _ rfl j (hrd ▸ hj) hj
theorem Drw.one {S : World → Prop} {T : List Nat} {i : Nat} {r : Tr} (h : One P n c Q S T i r ρ w) : Drw P n c Q S T (.op i 1 r) ρ w := by
  refine ⟨fun hn listed hc a ha => ?_⟩
  simp only [chk, Bool.and_eq_true, beq_iff_eq] at hc
  refine ⟨fun h => (by rw [hc.1] at h; cases h), fun j hj => ?_⟩
  have hj' := hj
  rw [hc.1, List.mem_singleton] at hj'
  subst hj'
  exact h.out hn listed hc.2 hj a ha
theorem W.drawn (ht : tag c = 2) (hm : P.follows .mixedOrders = true) (S : World → Prop) (T : List Nat) (ord : Tr) (hl : ord.fuel = (cOps c).size)
    (hc : (Region.noSelect (cOps c) && chk (cOps c) T false ord (Array.replicate ord.fuel false)) = true) (hS : S w.drew) (h : Drw P n c Q S T ord ρ w.drew) : W P n c Q ρ w := by
  rw [Bool.and_eq_true] at hc
  cases c with
  | region _ _ b =>
    cases b
    · cases ht
    · refine ⟨fun a ha => wp_region_any hm (wpAny_ofT (S := S) (T := T) _ _ _ _ ?_)⟩
      have := h.out hc.1 _ hc.2 a ha
      rw [hl] at this
      exact this
  | _ => cases ht
section
variable {S : World → Prop} {T : List Nat} {i : Nat} {r : Tr} {op : Op} {ty : TypeId} {ps : String} {af : Array Edge} {gd : Option (Nat × Bool)}
theorem Drw.done (h : Q .normal ρ w) : Drw P n c Q S T .nil ρ w := by
  refine ⟨fun _ listed hc a ha => ?_⟩
  have : Region.ready .any (cOps c) listed = [] := by simpa [chk] using hc
  exact ⟨this, ρ, ha, h⟩
theorem Drw.take {d m : Nat} {o : Oper} {v : Value} {S' : World → Prop} (hm : m ≠ 1) (hmode : (∀ w, S w → S' w) ∧ m = 0 ∨ (∀ w, S' w)) (ho : opat c i = some o) (ho2 : o.dst = some d) (hd : okD n (some d) = true)
    (hy : ∀ a, Is n a ρ → YieldsIf P (cOps c) S' o v a) (hS : S w) (k : Drw P n c Q S T r (upd ρ d v) w) : Drw P n c Q S T (.op i m r) ρ w := by
  refine ⟨fun hn listed hc a ha => ?_⟩
  rw [chk_take hm] at hc
  simp only [Bool.and_eq_true, Bool.or_eq_true, beq_iff_eq] at hc
  obtain ⟨⟨hfree, ⟨hiT, htl⟩, hm2⟩, hrd, hrest⟩ := hc
  have ho' : (cOps c)[i]? = some o := by unfold opat at ho; rwa [Array.getElem?_toList] at ho
  refine wpAnyT_take (i := i) (oi := o) (v := v) (S' := S') ho' hn (by simpa using hiT) ?_ ?_ _ listed a w ?_ (.inl htl) (by simpa using hrd) (hy a ha) (fun _ => hS) ?_
  · rintro c a w ⟨ρ', ⟨h0, h1⟩, h2⟩
    refine ⟨ρ', ⟨?_, fun t ht => ?_⟩, h2⟩
    · rw [ho2] at h0; exact h0
    · rw [← h1 t ht, ho2]
      have hmd : n.m ≤ d := by simp [okD] at hd; exact hd.2
      simp only [Act.put, Array.getD_eq_getD_getElem?]
      rw [Array.getElem?_setIfInBounds_ne (by omega)]
  · rcases hmode with h | h
    · refine .inl ⟨h.1, fun j hj => ?_⟩
      rcases hm2 with h2 | h2
      · rw [h.2] at h2; cases h2
      · exact (List.all_eq_true.1 h2) j (List.contains_iff_mem.1 hj)
    · exact .inr h
  · intro j oj hj hne hun hwt
    refine Region.free_spec ho' hfree j oj hj hne hun (fun e he hb heq => ?_)
    unfold waits at hwt
    rw [hj] at hwt
    dsimp only at hwt
    have : (oj.after.any fun e => Region.binds .any e && e.on == i) = true := Array.any_eq_true'.2 ⟨e, he, by simp [hb, heq]⟩
    rw [this] at hwt
    cases hwt
  · rw [ho2]
    exact k.out hn _ hrest _ (ha.put (by simp [okD, Nat.blt_eq] at hd; exact hd.1) v)
theorem Drw.y {d : Nat} {v : Value} (ho : opat c i = some ⟨some d, op, ty, ps, af, gd⟩) (hw : wants c ρ gd = true) (hd : okD n (some d) = true)
    (hS : S w) (hy : Y P S ρ op ty v) (k : Drw P n c Q S T r (upd ρ d v) w) : Drw P n c Q S T (.op i 0 r) ρ w := by
  refine Drw.take (by decide) (.inl ⟨fun _ h => h, rfl⟩) ho rfl hd (fun a ha => .inl ⟨?_, fun w hS => ?_⟩) hS k
  · rw [wants_eq ha]; exact hw
  · rw [ha.eval]; exact hy w hS _ rfl rfl
/-- What is quiet in every world. -/
theorem Drw.ya {d : Nat} {v : Value} (ho : opat c i = some ⟨some d, op, ty, ps, af, gd⟩) (hw : wants c ρ gd = true) (hd : okD n (some d) = true)
    (hS : S w) (hy : Y P (fun _ => True) ρ op ty v) (k : Drw P n c Q S T r (upd ρ d v) w) : Drw P n c Q S T (.op i 2 r) ρ w := by
  refine Drw.take (by decide) (.inr fun _ => trivial) ho rfl hd (fun a ha => .inl ⟨?_, fun w hS => ?_⟩) hS k
  · rw [wants_eq ha]; exact hw
  · rw [ha.eval]; exact hy w hS _ rfl rfl
theorem Drw.no {d : Nat} (ho : opat c i = some ⟨some d, op, ty, ps, af, gd⟩) (hw : wants c ρ gd = false) (hd : okD n (some d) = true)
    (hS : S w) (k : Drw P n c Q S T r (upd ρ d undef) w) : Drw P n c Q S T (.op i 0 r) ρ w := by
  refine Drw.take (by decide) (.inl ⟨fun _ h => h, rfl⟩) ho rfl hd (fun a ha => .inr ⟨?_, rfl⟩) hS k
  rw [wants_eq ha]; exact hw
theorem Drw.noA {d : Nat} (ho : opat c i = some ⟨some d, op, ty, ps, af, gd⟩) (hw : wants c ρ gd = false) (hd : okD n (some d) = true)
    (hS : S w) (k : Drw P n c Q S T r (upd ρ d undef) w) : Drw P n c Q S T (.op i 2 r) ρ w := by
  refine Drw.take (S' := fun _ => True) (by decide) (.inr fun _ => trivial) ho rfl hd (fun a ha => .inr ⟨?_, rfl⟩) hS k
  rw [wants_eq ha]; exact hw
theorem One.step {d : Option Nat} (ho : opat c i = some ⟨d, op, ty, ps, af, gd⟩)
    (h : ∀ (a : Act) (K' : Act → World → Prop), Is n a ρ → (∀ v w', (T.contains i = true ∨ S w') → Drw P n c Q S T r (putE ρ d v) w' → okD n d = true → K' (a.put d v) w') → opK P (cOps c) (lift n Q) ⟨d, op, ty, ps, af, gd⟩ K' a w) :
    One P n c Q S T i r ρ w := by
  refine ⟨fun hn listed hc hr a ha => ?_⟩
  refine nxt_of (by unfold opat at ho; rwa [Array.getElem?_toList] at ho) (fun K' hK' => h a K' ha ?_)
  intro v w' h1 h2 h3
  refine hK' _ _ (fun htl => ?_) (h2.out hn _ hc _ (ha.putE h3 v))
  rcases h1 with h1 | h1
  · exfalso
    have hlt : i < listed.size := by
      have h0 := (mem_ready.1 hr).1
      rcases Nat.lt_or_ge i listed.size with h | h
      · exact h
      · simp [Array.getElem?_eq_none h] at h0
    have := (List.all_eq_true.1 htl) i (List.contains_iff_mem.1 h1)
    simp [hlt] at this
  · exact h1
theorem One.noX {d : Option Nat} (ho : opat c i = some ⟨d, op, ty, ps, af, gd⟩) (hw : wants c ρ gd = false) (hd : okD n d = true)
    (hS : S w) (k : Drw P n c Q S T r (putE ρ d undef) w) : One P n c Q S T i r ρ w := by
  refine One.step ho fun a K' ha hK' => ?_
  have hw' := wants_eq (c := c) (o := ⟨d, op, ty, ps, af, gd⟩) ha
  rw [hw] at hw'
  unfold opK
  rw [if_neg (by rw [hw']; decide)]
  exact hK' undef w (.inr hS) k hd
theorem One.go {d : Option Nat} (ho : opat c i = some ⟨d, op, ty, ps, af, gd⟩) (hw : wants c ρ gd = true) (hd : okD n d = true)
    (hx : X P ρ w op ty (fun v w' => (T.contains i = true ∨ S w') ∧ Drw P n c Q S T r (putE ρ d v) w')) : One P n c Q S T i r ρ w := by
  refine One.step ho fun a K' ha hK' => ?_
  have hw' := wants_eq (c := c) (o := ⟨d, op, ty, ps, af, gd⟩) ha
  rw [hw] at hw'
  have h := hx a (cOps c) (lift n Q) ⟨d, op, ty, ps, af, gd⟩ rfl rfl ha.eval hw'
  unfold opK at h ⊢
  rw [if_pos hw'] at h ⊢
  refine Oper.wp_mono ?_ h
  rintro a' w' ⟨v, rfl, h1, h2⟩
  exact hK' v w' h1 h2 hd
theorem X.mono {K K' : Value → World → Prop} (h : X P ρ w op ty K) (hk : ∀ v w', K v w' → K' v w') : X P ρ w op ty K' := by
  intro a ops Q o h1 h2 h3 h4
  have := h a ops Q o h1 h2 h3 h4
  unfold opK at this ⊢
  rw [if_pos h4] at this ⊢
  exact Oper.wp_mono (fun a' w' ⟨v, e, hv⟩ => ⟨v, e, hk v w' hv⟩) this
/-- What acts; S still holds behind it. -/
theorem One.x {d : Option Nat} (ho : opat c i = some ⟨d, op, ty, ps, af, gd⟩) (hw : wants c ρ gd = true) (hd : okD n d = true)
    (hx : X P ρ w op ty (fun v w' => S w' ∧ Drw P n c Q S T r (putE ρ d v) w')) : One P n c Q S T i r ρ w :=
  One.go ho hw hd (hx.mono fun _ _ ⟨h1, h2⟩ => ⟨.inr h1, h2⟩)
/-- What acts, in the tail: nothing is asked of S any more. -/
theorem One.z {d : Option Nat} (ho : opat c i = some ⟨d, op, ty, ps, af, gd⟩) (hw : wants c ρ gd = true) (hd : okD n d = true) (hT : T.contains i = true)
    (hx : X P ρ w op ty (fun v w' => Drw P n c Q S T r (putE ρ d v) w')) : One P n c Q S T i r ρ w :=
  One.go ho hw hd (hx.mono fun _ _ h2 => ⟨.inl hT, h2⟩)
/-- What is quiet, in the tail. -/
theorem One.zy {d : Nat} {v : Value} {S' : World → Prop} (ho : opat c i = some ⟨some d, op, ty, ps, af, gd⟩) (hw : wants c ρ gd = true) (hd : okD n (some d) = true) (hT : T.contains i = true)
    (hS : S' w) (hy : Y P S' ρ op ty v) (k : Drw P n c Q S T r (upd ρ d v) w) : One P n c Q S T i r ρ w := by
  refine One.z ho hw hd hT ?_
  intro a ops Q o h1 h2 h3 h4
  refine wpl h4 (v := v) (w' := w) ?_ ⟨v, rfl, k⟩
  rw [h3]
  exact hy w hS o h1 h2
theorem Drw.noX {d : Option Nat} (ho : opat c i = some ⟨d, op, ty, ps, af, gd⟩) (hw : wants c ρ gd = false) (hd : okD n d = true)
    (hS : S w) (k : Drw P n c Q S T r (putE ρ d undef) w) : Drw P n c Q S T (.op i 1 r) ρ w := Drw.one (One.noX ho hw hd hS k)
theorem Drw.x {d : Option Nat} (ho : opat c i = some ⟨d, op, ty, ps, af, gd⟩) (hw : wants c ρ gd = true) (hd : okD n d = true)
    (hx : X P ρ w op ty (fun v w' => S w' ∧ Drw P n c Q S T r (putE ρ d v) w')) : Drw P n c Q S T (.op i 1 r) ρ w := Drw.one (One.x ho hw hd hx)
theorem Drw.z {d : Option Nat} (ho : opat c i = some ⟨d, op, ty, ps, af, gd⟩) (hw : wants c ρ gd = true) (hd : okD n d = true) (hT : T.contains i = true)
    (hx : X P ρ w op ty (fun v w' => Drw P n c Q S T r (putE ρ d v) w')) : Drw P n c Q S T (.op i 1 r) ρ w := Drw.one (One.z ho hw hd hT hx)
theorem Drw.zy {d : Nat} {v : Value} {S' : World → Prop} (ho : opat c i = some ⟨some d, op, ty, ps, af, gd⟩) (hw : wants c ρ gd = true) (hd : okD n (some d) = true) (hT : T.contains i = true)
    (hS : S' w) (hy : Y P S' ρ op ty v) (k : Drw P n c Q S T r (upd ρ d v) w) : Drw P n c Q S T (.op i 1 r) ρ w := Drw.one (One.zy ho hw hd hT hS hy k)
end
end
end Go.Proofs.Ytkbkgpedpaodlaa.K
