/- What Decode answers; how it is left. -/
import Derived.Test.YtkbkgpedpaodlaaWH
import Derived.Test.YtkbkgpedpaodlaaE5
set_option linter.unusedVariables false
set_option linter.unusedSimpArgs false
namespace Go.Proofs.Ytkbkgpedpaodlaa.W
open Go.RowKit Go.Proofs.Ytkbkgpedpaodlaa.K Go.Proofs.Ytkbkgpedpaodlaa.CM
/-- A message. -/
structure M where
  kind : Int
  from_ : Int
  slo : Int
  shi : Int
  held : Int
  hops : Int
  good : Bool
  ref : Bool
  elo : Int
  ehi : Int
  pulse : Int
  time : Int
  num : Int
  tab : List (Int × Int)
def M0 : M := ⟨0, 0, 0, 0, 0, 0, false, false, 0, 0, 0, 0, 0, []⟩
def M.Ok (m : M) : Prop := Okm m.kind m.from_ m.slo m.shi m.held m.hops m.elo m.ehi m.pulse m.time m.num m.tab
instance (m : M) : Decidable m.Ok := by unfold M.Ok; infer_instance
def gb (p : List UInt8) (i : Nat) : UInt8 := p.getD i 0
def numAt (p : List UInt8) (i : Nat) : Int := rd8 ((p.drop (4 + 8 * i)).take 8)
def rdTab (p : List UInt8) (n : Nat) : List (Int × Int) := (List.range n).map fun i => (numAt p (9 + 2 * i), numAt p (10 + 2 * i))
/-- The message that a payload tells. -/
def rdM (p : List UInt8) : M := ⟨(gb p 0).toNat, (gb p 1).toNat, numAt p 0, numAt p 1, numAt p 2, numAt p 3, decide ((gb p 2).toNat % 2 = 1), decide ((gb p 2).toNat / 2 % 2 = 1), numAt p 4, numAt p 5, numAt p 6, numAt p 7, numAt p 8, rdTab p (gb p 3).toNat⟩
def FormOk (p : List UInt8) : Prop := 76 ≤ p.length ∧ p.length = 76 + 16 * (gb p 3).toNat ∧ (gb p 2).toNat ≤ 3
instance (p : List UInt8) : Decidable (FormOk p) := by unfold FormOk; infer_instance
/-- What is opened of sealed bytes. -/
def opn (l : List UInt8) : Option (List UInt8) := if l.length < 4 then none else if l.drop (l.length - 4) = le4 (crc (l.take (l.length - 4))) then some (l.take (l.length - 4)) else none
/-- What Decode answers. -/
def decR (l : List UInt8) : M × Int := if 4096 < l.length then (M0, 3) else match opn l with
  | none => (M0, 5)
  | some p => if FormOk p then (if (rdM p).Ok then (rdM p, 0) else (M0, 4)) else (M0, 4)
theorem cf28 : ∀ args w, (callFunc 28 args).run Try.prog w = .ok (.enter 28 args) w := fun _ _ => by simp [go_sem]
def decD (p2 p3 : Nat) : Deferred := { target := .fn (.func 28) #[.pointer (some ⟨p2, 0, none⟩), .pointer (some ⟨p3, 0, none⟩)], args := #[] }
theorem dec_res {p2 p3 : Nat} {ms : List Value} {v0 : Value} (hms : ms.length = 14) {w0 w : World} {F0 : List Nat} {L G : List Res} (hst : St w0 F0 w (cellsR p2 ms 28 :: cellsR p3 [v0] 32 :: L) G) {tmps : Array Value}
    (h2 : tmps.getD 2 undef = .pointer (some ⟨p2, 0, none⟩)) (h3 : tmps.getD 3 undef = .pointer (some ⟨p3, 0, none⟩)) : (results Try.f18 tmps).run Try.prog w = .ok (.tuple #[.agg ms.toArray, v0]) w := by
  have e2 := run_load_agg (w := w) (ad := ⟨p2, 0, none⟩) (vs := ms) Try.isAgg28 Try.sizeOf28 hms (fun j v h => by rw [add_lit', hst.cell (.inl (List.Mem.head _)) (0 + j), Nat.zero_add]; exact h)
  have e3 := run_load_cell (w := w) (ad := ⟨p3, 0, none⟩) (v := v0) Try.isAgg32 (by rw [hst.cell (.inl (List.Mem.tail _ (List.Mem.head _))) 0]; rfl)
  rw [Array.getD_eq_getD_getElem?] at h2 h3
  simp [results, Try.results18, h2, h3, asAddr, e2, e3]
theorem dec_panic {R : Ending → World → Prop} {p2 p3 : Nat} {ms : List Value} {v0 : Value} (er : Int) (hms : ms.length = 14) {w0 w : World} {F0 : List Nat} {L G : List Res} (hst : St w0 F0 w (cellsR p2 ms 28 :: cellsR p3 [v0] 32 :: L) G) {ρ : Env}
    (h2 : ρ 2 = .pointer (some ⟨p2, 0, none⟩)) (h3 : ρ 3 = .pointer (some ⟨p3, 0, none⟩)) (hR : ∀ w', St w0 F0 w' L G → R (.returned (.tuple #[.agg zms.toArray, .int .i64 er])) w') :
    ∀ tmps : Array Value, (∀ t, t < 4 → tmps.getD t undef = ρ t) → Leaves Try.prog Try.f18 tmps R [decD p2 p3] (.panicking [{ v := faultV er, recovered := false }]) w := by
  intro tmps ht
  refine leaves_cons (f := 28) (args := #[.pointer (some ⟨p2, 0, none⟩), .pointer (some ⟨p3, 0, none⟩)]) (by simp) (by simp [invoke, cf28]) ?_
  refine (rec_fault p2 p3 ms hms v0 er w0 w F0 L G hst).mono ?_
  rintro e u' w' ⟨rfl, rfl, hst⟩
  exact ⟨_, dec_res rfl hst ((ht 2 (by decide)).trans h2) ((ht 3 (by decide)).trans h3), hR w' hst.drop.drop⟩
theorem dec_ret {R : Ending → World → Prop} {p2 p3 : Nat} {ms : List Value} {v0 : Value} (hms : ms.length = 14) {w0 w : World} {F0 : List Nat} {L G : List Res} (hst : St w0 F0 w (cellsR p2 ms 28 :: cellsR p3 [v0] 32 :: L) G) {ρ : Env}
    (h2 : ρ 2 = .pointer (some ⟨p2, 0, none⟩)) (h3 : ρ 3 = .pointer (some ⟨p3, 0, none⟩)) (hR : ∀ w', St w0 F0 w' L G → R (.returned (.tuple #[.agg ms.toArray, v0])) w') :
    ∀ (n : Fr) a, Is n a ρ → Leaves Try.prog Try.f18 a.tmps R [decD p2 p3] .returning w := by
  intro n a ha
  refine leaves_cons (f := 28) (args := #[.pointer (some ⟨p2, 0, none⟩), .pointer (some ⟨p3, 0, none⟩)]) (by simp) (by simp [invoke, cf28]) ?_
  refine (rec_nil _ _ w0 w F0 _ G hst).mono ?_
  rintro e u' w' ⟨rfl, rfl, hst⟩
  exact ⟨_, dec_res hms hst ((ha.get 2).trans h2) ((ha.get 3).trans h3), hR w' hst.drop.drop⟩
end Go.Proofs.Ytkbkgpedpaodlaa.W
