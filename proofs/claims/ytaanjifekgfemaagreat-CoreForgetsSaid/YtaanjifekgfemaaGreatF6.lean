/- What the proof rests on, part 6. -/
import Derived.Test.YtaanjifekgfemaaGreatF5
set_option linter.unusedVariables false
set_option linter.unusedSimpArgs false
set_option linter.unusedSectionVars false
namespace Go.Proofs.YtaanjifekgfemaaGreat.Op
section
open Tryz Go.RowKit YtaanjifekgfemaaGreat.K YtaanjifekgfemaaGreat.W YtaanjifekgfemaaGreat.Cl Go.ChangeShapes Go.WideShapes Go.Deep
theorem Bx3 {n : Int} (h : (Lit.int .i64 n).wf = true) : Bz n := by
 simp only [Lit.wf, IntKind.min, IntKind.max, IntKind.signed, IntKind.bits, Bool.and_eq_true, decide_eq_true_eq] at h; unfold Bz; simp at h; omega
theorem S1 {H : Type} {P : Program} {e : TypeId} : ∀ {l : List (DataW H)} {d : DataW H}, d ∈ l → ∀ n ∈ d.weights P e, n ∈ DataW.weightsAll P e l := by
  intro l
  induction l with
  | nil => intro d h; cases h
  | cons x l ih =>
    intro d h n hn; simp only [DataW.weightsAll, List.mem_append]; rcases List.mem_cons.1 h with rfl | h
    · exact .inl hn
    · exact .inr (ih h n hn)
def Z3 {H : Type} (t : TypeId) (d : DataW H) : Prop := ∀ y ∈ d.weights Tryz.prog t, y ≤ reachBytes
def Opn {H : Type} (enc : TypeId × Value → H) (w : World) (base : Nat) (held : Bool) (t : TypeId) {α : Type} (c : α → List Value) (Q : α → Prop) : Prop :=
  ∀ (fuel : Nat) (cs : List Value) (x : DataW H × List MemPlace), DataW.trod enc Tryz.prog w base (fun _ => true) held fuel t cs = some x → Z3 t x.1 → ∃ a, cs = c a ∧ Q a
section
variable {H : Type} {enc : TypeId × Value → H} {w : World} {base : Nat} {held : Bool}
theorem B0 : Opn enc w base held 3 (fun n : Int => [Value.int .i64 n]) Bz := by
 intro fuel cs x h _; obtain ⟨n, h1, _, h2⟩ := DataW.trod_int underlying3 h; exact ⟨n, h1, Bx3 h2⟩
theorem Yx : Opn enc w base held 4 (fun b : Bool => [Value.bool b]) (fun _ => True) := by
 intro fuel cs x h _; obtain ⟨b, h1, _⟩ := DataW.trod_bool underlying4 h; exact ⟨b, h1, trivial⟩
theorem R7 : Opn enc w base held 9 (fun s : ByteArray => [Value.string s]) (fun s => s.size ≤ 140737488355328) := by
 intro fuel cs x h hf; obtain ⟨s, h1, h2, _⟩ := DataW.trod_string underlying9 h; refine ⟨s, h1, ?_⟩; have h3 := hf s.data.toList.length (by rw [h2]; simp [DataW.weights]); rw [Mq] at h3; have := reachBytes_lt; omega
theorem An {t : TypeId} {fs : Array Field} (ht : Tryz.prog.underlying t = some (.struct fs)) {fuel : Nat} {cs : List Value} {x : DataW H × List MemPlace} (h : DataW.trod enc Tryz.prog w base (fun _ => true) held fuel t cs = some x) (hF : Z3 t x.1) (j : Nat) {f : Field} (hj : fs[j]? = some f)
  {α : Type} {c : α → List Value} {Q : α → Prop} (ho : Opn enc w base held f.type c Q) {k : Nat} (hk : Tryz.prog.cellsOf f.type = k) : ∃ a, (cs.drop f.offset).take k = c a ∧ Q a := by
 obtain ⟨xs, n, _, hx, _, hl, hg⟩ := DataW.trod_struct ht h; have hjl : j < xs.length := by rw [hl]; exact (Array.getElem?_eq_some_iff.1 hj).1
 have g := hg j f hj; rw [List.getElem?_eq_getElem hjl, hk] at g; refine ho n _ _ g ?_; intro y hy; refine hF y ?_; rw [hx]; simp only [DataW.weights, ht]; refine DataW.weights_mem_each (j := j) (t := f.type) (d := xs[j].1) ?_ ?_ y hy
 ·rw [List.getElem?_map, Array.getElem?_toList, hj]; rfl
 ·rw [List.getElem?_map, List.getElem?_eq_getElem hjl]; rfl
theorem Em {t : TypeId} {fs : Array Field} (ht : Tryz.prog.underlying t = some (.struct fs)) {fuel : Nat} {cs : List Value} {x : DataW H × List MemPlace} (h : DataW.trod enc Tryz.prog w base (fun _ => true) held fuel t cs = some x) {k : Nat} (hk : Tryz.prog.cellsOf t = k) : cs.length = k := by
 obtain ⟨xs, n, _, hx, hc, _⟩ := DataW.trod_struct ht h; rw [hc, hk]
theorem Awq (cs : List Value) (o s : Nat) : cs.drop o = (cs.drop o).take s ++ cs.drop (o + s) := by
 rw [← List.drop_drop, List.take_append_drop]
theorem As {cs a b : List Value} (o s : Nat) (e1 : (cs.drop o).take s = a) (e2 : cs.drop (o + s) = b) : cs.drop o = a ++ b := by
 rw [Awq cs o s, e1, e2]
structure SlOf (α : Type) where
  l : List α
  A : Option Addr
  cap : Nat
def slC {α : Type} (s : SlOf α) : List Value := [.slice s.A s.l.length s.cap]
def Jt {α : Type} (w : World) (c : α → List Value) (Q : α → Prop) (s : SlOf α) : Prop := Sl w (.slice s.A s.l.length s.cap) s.l.length (Ae c s.l) ∧ s.l.length ≤ 140737488355328 ∧ ∀ a ∈ s.l, Q a
theorem Es {t e : TypeId} (ht : Tryz.prog.underlying t = some (.slice e)) {α : Type} {c : α → List Value} {Q : α → Prop} (ho : Opn enc w base held e c Q) {m : Nat} (hm : Tryz.prog.cellsOf e = m) (hc : ∀ a, (c a).length = m) (hm0 : 0 < m) (hb : 1 ≤ Tryz.prog.bytesOf e) (a0 : α) :
  Opn enc w base held t slC (Jt w c Q) := by
 intro fuel cs x h hF; rcases open_slice ht h with ⟨h1, _⟩ | ⟨a, len, cap, mm, n, D, Pl, h1, _, hl, hmx, hmm, hx, hi⟩
 ·subst h1; refine ⟨⟨[], none, 0⟩, rfl, Sl.nil w, by simp, fun a h => by cases h⟩
 ·subst h1; rw [if_pos rfl] at hmm; subst hmm
  have hlen : len ≤ 140737488355328 := by
   have h2 := hF ((((List.range len).map D).length + ((List.range (mm - len)).map fun j => D (len + j)).length) * Tryz.prog.bytesOf e) (by rw [hx]; simp only [DataW.weights, ht]; exact .head _); rw [List.length_map, List.length_range, List.length_map, List.length_range] at h2; have h3 : len * 1 ≤ (len + (mm - len)) * Tryz.prog.bytesOf e := Nat.mul_le_mul (by omega) hb; have := reachBytes_lt; omega
  have HH : ∀ i, i < len → ∃ y : α, Q y ∧ ∀ j, j < m → w.cell? (a.add (i * m + j)) = (c y)[j]? := by
   intro i hlt; obtain ⟨cs, hcs, ht2⟩ := hi i (by omega); rw [hm] at hcs; obtain ⟨_, hcl, hat⟩ := World.cells?_some hcs
   obtain ⟨y, hy, hq⟩ := ho n cs _ ht2 (by
    intro z hz; refine hF z ?_; rw [hx]; simp only [DataW.weights, ht]; refine .tail _ (List.mem_append.2 (.inl (S1 ?_ z hz)))
    exact List.mem_map.2 ⟨i, List.mem_range.2 hlt, rfl⟩)
   refine ⟨y, hq, fun j hj => ?_⟩; have := hat j (by omega); rw [K.add_add] at this; rw [this, hy]
  let f : Nat → α := fun i => if h : i < len then Classical.choose (HH i h) else a0
  have hf : ∀ i, i < len → Q (f i) ∧ ∀ j, j < m → w.cell? (a.add (i * m + j)) = (c (f i))[j]? := by
   intro i hlt; have := Classical.choose_spec (HH i hlt); simp only [f, hlt, dif_pos]; exact this
  have hll : ((List.range len).map f).length = len := by simp
  refine ⟨⟨(List.range len).map f, some a, mm⟩, by unfold slC; dsimp only; rw [hll], ?_, by dsimp only; rw [hll]; exact hlen, ?_⟩
  ·dsimp only; rw [hll]; refine ⟨_, _, rfl, hl, fun _ => ⟨a, rfl, fun j hj => ?_⟩⟩; rw [Gi hc, hll] at hj; have hdm : j / m < len := Nat.div_lt_of_lt_mul (by rw [Nat.mul_comm]; exact hj); have hmd : j % m < m := Nat.mod_lt _ hm0; have e1 := (hf (j / m) hdm).2 (j % m) hmd; have e2 : j / m * m + j % m = j := by rw [Nat.mul_comm]; exact Nat.div_add_mod j m
   rw [e2] at e1; have e3 := C4 hc ((List.range len).map f) (j / m) (j % m) (by rw [hll]; exact hdm) hmd; rw [e2] at e3; rw [e1, e3]; simp
  ·intro y hy; obtain ⟨i, hi2, rfl⟩ := List.mem_map.1 hy; exact (hf i (List.mem_range.1 hi2)).1
theorem Fx : Tryz.prog.cellsOf 3 = 1 := by kernel_rfl
theorem Bhq : Tryz.prog.cellsOf 4 = 1 := by kernel_rfl
theorem Bt0 : Tryz.prog.cellsOf 9 = 1 := by kernel_rfl
theorem Bsz : Tryz.prog.cellsOf 24 = 1 := by kernel_rfl
theorem Bwq : Tryz.prog.cellsOf 28 = 1 := by kernel_rfl
theorem Bwx : Tryz.prog.cellsOf 41 = 1 := by kernel_rfl
theorem Bw7 : Tryz.prog.cellsOf 25 = 1 := by kernel_rfl
theorem Bw8 : Tryz.prog.cellsOf 26 = 1 := by kernel_rfl
theorem Bw9 : Tryz.prog.cellsOf 27 = 1 := by kernel_rfl
theorem Bl3 : Tryz.prog.cellsOf 77 = 2 := by kernel_rfl
set_option maxRecDepth 100000 in
theorem Ajx : Opn enc w base held 77 (fun a : Int × Int => Aq a) (fun a => Bz a.1 ∧ Bz a.2) := by
 intro fuel cs x h hF; have hl := Em underlying77 h Bl3; obtain ⟨n0, e0, q0⟩ := An underlying77 h hF 0 rfl B0 Fx; obtain ⟨n1, e1, q1⟩ := An underlying77 h hF 1 rfl B0 Fx; refine ⟨(n0, n1), ?_, ?_⟩
 ·
  have z : cs.drop 2 = [] := List.drop_of_length_le (by omega); exact (List.drop_zero (l := cs)).symm.trans (As 0 1 e0 (As 1 1 e1 (z)))
 ·exact ⟨q0, q1⟩
theorem Bhz : Tryz.prog.cellsOf 53 = 2 := by kernel_rfl
set_option maxRecDepth 100000 in
theorem A27 : Opn enc w base held 53 (fun a : Int × Int => Aq a) (fun a => Bz a.1 ∧ Bz a.2) := by
 intro fuel cs x h hF; have hl := Em underlying53 h Bhz; obtain ⟨n0, e0, q0⟩ := An underlying53 h hF 0 rfl B0 Fx; obtain ⟨n1, e1, q1⟩ := An underlying53 h hF 1 rfl B0 Fx; refine ⟨(n0, n1), ?_, ?_⟩
 ·
  have z : cs.drop 2 = [] := List.drop_of_length_le (by omega); exact (List.drop_zero (l := cs)).symm.trans (As 0 1 e0 (As 1 1 e1 (z)))
 ·exact ⟨q0, q1⟩
theorem Azq : Tryz.prog.cellsOf 55 = 2 := by kernel_rfl
set_option maxRecDepth 100000 in
theorem Ar4 : Opn enc w base held 55 (fun a : Int × Int => Aq a) (fun a => Bz a.1 ∧ Bz a.2) := by
 intro fuel cs x h hF; have hl := Em underlying55 h Azq; obtain ⟨n0, e0, q0⟩ := An underlying55 h hF 0 rfl B0 Fx; obtain ⟨n1, e1, q1⟩ := An underlying55 h hF 1 rfl B0 Fx; refine ⟨(n0, n1), ?_, ?_⟩
 ·
  have z : cs.drop 2 = [] := List.drop_of_length_le (by omega); exact (List.drop_zero (l := cs)).symm.trans (As 0 1 e0 (As 1 1 e1 (z)))
 ·exact ⟨q0, q1⟩
theorem Bhx : Tryz.prog.cellsOf 114 = 2 := by kernel_rfl
set_option maxRecDepth 100000 in
theorem A25 : Opn enc w base held 114 (fun a : Int × Int => Aq a) (fun a => Bz a.1 ∧ Bz a.2) := by
 intro fuel cs x h hF; have hl := Em underlying114 h Bhx; obtain ⟨n0, e0, q0⟩ := An underlying114 h hF 0 rfl B0 Fx; obtain ⟨n1, e1, q1⟩ := An underlying114 h hF 1 rfl B0 Fx; refine ⟨(n0, n1), ?_, ?_⟩
 ·
  have z : cs.drop 2 = [] := List.drop_of_length_le (by omega); exact (List.drop_zero (l := cs)).symm.trans (As 0 1 e0 (As 1 1 e1 (z)))
 ·exact ⟨q0, q1⟩
theorem Acx : Tryz.prog.cellsOf 57 = 11 := by kernel_rfl
set_option maxRecDepth 100000 in
theorem Uj : Opn enc w base held 57 (fun a : Sd => sdC a) (fun a => Jt w Aq (fun y => Bz y.1 ∧ Bz y.2) ⟨a.s.tab, a.A, a.cap⟩) := by
 intro fuel cs x h hF; have hl := Em underlying57 h Acx; obtain ⟨sp, e0, _⟩ := An underlying57 h hF 0 rfl A27 Bhz; obtain ⟨n1, e1, _⟩ := An underlying57 h hF 1 rfl B0 Fx; obtain ⟨b2, e2, _⟩ := An underlying57 h hF 2 rfl Yx Bhq; obtain ⟨n3, e3, _⟩ := An underlying57 h hF 3 rfl B0 Fx; obtain ⟨n4, e4, _⟩ := An underlying57 h hF 4 rfl B0 Fx; obtain ⟨b5, e5, _⟩ := An underlying57 h hF 5 rfl Yx Bhq; obtain ⟨tb, e6, qt⟩ := An underlying57 h hF 6 rfl (Es (a0 := (0, 0)) underlying41 A25 Bhx (fun _ => rfl) (by decide) (show 1 ≤ Tryz.prog.bytesOf 114 from Nat.le_of_ble_eq_true (by kernel_rfl))) Bwx; obtain ⟨st, e7, _⟩ := An underlying57 h hF 7 rfl Ar4 Azq; obtain ⟨n8, e8, _⟩ := An underlying57 h hF 8 rfl B0 Fx; refine ⟨⟨⟨sp.1, sp.2, n1, b2, n3, n4, b5, tb.l, st.1, st.2, n8⟩, tb.A, tb.cap⟩, ?_, ?_⟩
 ·
  have z : cs.drop 11 = [] := List.drop_of_length_le (by omega); exact (List.drop_zero (l := cs)).symm.trans (As 0 2 e0 (As 2 1 e1 (As 3 1 e2 (As 4 1 e3 (As 5 1 e4 (As 6 1 e5 (As 7 1 e6 (As 8 2 e7 (As 10 1 e8 (z))))))))))
 ·exact qt
theorem Bl2 : Tryz.prog.cellsOf 79 = 3 := by kernel_rfl
set_option maxRecDepth 100000 in
theorem Ajq : Opn enc w base held 79 (fun a : Li => liC a) (fun a => a.text.size ≤ 140737488355328) := by
 intro fuel cs x h hF; have hl := Em underlying79 h Bl2; obtain ⟨wy, e0, _⟩ := An underlying79 h hF 0 rfl Ajx Bl3; obtain ⟨s1, e1, q1⟩ := An underlying79 h hF 1 rfl R7 Bt0; refine ⟨⟨wy.1, wy.2, s1⟩, ?_, ?_⟩
 ·
  have z : cs.drop 3 = [] := List.drop_of_length_le (by omega); exact (List.drop_zero (l := cs)).symm.trans (As 0 2 e0 (As 2 1 e1 (z)))
 ·exact q1
theorem Aiz : Tryz.prog.cellsOf 23 = 12 := by kernel_rfl
set_option maxRecDepth 100000 in
theorem Ae0 : Opn enc w base held 23 (fun a : Par => E4 a) (fun a => True) := by
 intro fuel cs x h hF; have hl := Em underlying23 h Aiz; obtain ⟨n0, e0, _⟩ := An underlying23 h hF 0 rfl B0 Fx; obtain ⟨n1, e1, _⟩ := An underlying23 h hF 1 rfl B0 Fx; obtain ⟨n2, e2, _⟩ := An underlying23 h hF 2 rfl B0 Fx; obtain ⟨n3, e3, _⟩ := An underlying23 h hF 3 rfl B0 Fx; obtain ⟨n4, e4, _⟩ := An underlying23 h hF 4 rfl B0 Fx; obtain ⟨n5, e5, _⟩ := An underlying23 h hF 5 rfl B0 Fx; obtain ⟨n6, e6, _⟩ := An underlying23 h hF 6 rfl B0 Fx; obtain ⟨n7, e7, _⟩ := An underlying23 h hF 7 rfl B0 Fx; obtain ⟨n8, e8, _⟩ := An underlying23 h hF 8 rfl B0 Fx; obtain ⟨n9, e9, _⟩ := An underlying23 h hF 9 rfl B0 Fx; obtain ⟨n10, e10, _⟩ := An underlying23 h hF 10 rfl B0 Fx; obtain ⟨n11, e11, _⟩ := An underlying23 h hF 11 rfl B0 Fx; refine ⟨⟨n0, n1, n2, n3, n4, n5, n6, n7, n8, n9, n10, n11⟩, ?_, ?_⟩
 ·
  have z : cs.drop 12 = [] := List.drop_of_length_le (by omega); exact (List.drop_zero (l := cs)).symm.trans (As 0 1 e0 (As 1 1 e1 (As 2 1 e2 (As 3 1 e3 (As 4 1 e4 (As 5 1 e5 (As 6 1 e6 (As 7 1 e7 (As 8 1 e8 (As 9 1 e9 (As 10 1 e10 (As 11 1 e11 (z)))))))))))))
 ·exact trivial
def Z0 (w : World) (c : Cs) : Prop := Jt w (fun n : Int => [Value.int .i64 n]) Bz ⟨c.core, c.a3.1, c.a3.2⟩ ∧ Jt w Aq (fun a => Bz a.1 ∧ Bz a.2) ⟨c.links, c.a4.1, c.a4.2⟩ ∧ Jt w sdC (fun a : Sd => Jt w Aq (fun y => Bz y.1 ∧ Bz y.2) ⟨a.s.tab, a.A, a.cap⟩) ⟨c.states, c.a5.1, c.a5.2⟩ ∧ Jt w liC (fun a => a.text.size ≤ 140737488355328) ⟨c.frames, c.a6.1, c.a6.2⟩ ∧ Jt w (fun n : Int => [Value.int .i64 n]) Bz ⟨c.noise, c.a7.1, c.a7.2⟩ ∧ Jt w (fun s : ByteArray => [Value.string s]) (fun s => s.size ≤ 140737488355328) ⟨c.lies, c.a8.1, c.a8.2⟩
theorem Bsx : Tryz.prog.cellsOf 30 = 20 := by kernel_rfl
set_option maxRecDepth 100000 in
theorem A23 : Opn enc w base held 30 (fun a : Cs => csC a) (fun a => Z0 w a) := by
 intro fuel cs x h hF; have hl := Em underlying30 h Bsx; obtain ⟨p0, e0, _⟩ := An underlying30 h hF 0 rfl Ae0 Aiz; obtain ⟨n1, e1, _⟩ := An underlying30 h hF 1 rfl B0 Fx; obtain ⟨n2, e2, _⟩ := An underlying30 h hF 2 rfl B0 Fx; obtain ⟨co, e3, q3⟩ := An underlying30 h hF 3 rfl (Es (a0 := 0) underlying24 B0 Fx (fun _ => rfl) (by decide) (show 1 ≤ Tryz.prog.bytesOf 3 from Nat.le_of_ble_eq_true (by kernel_rfl))) Bsz; obtain ⟨lk, e4, q4⟩ := An underlying30 h hF 4 rfl (Es (a0 := (0, 0)) underlying25 Ajx Bl3 (fun _ => rfl) (by decide) (show 1 ≤ Tryz.prog.bytesOf 77 from Nat.le_of_ble_eq_true (by kernel_rfl))) Bw7; obtain ⟨sa, e5, q5⟩ := An underlying30 h hF 5 rfl (Es (a0 := ⟨⟨0, 0, 0, false, 0, 0, false, [], 0, 0, 0⟩, none, 0⟩) underlying26 Uj Acx (fun _ => rfl) (by decide) (show 1 ≤ Tryz.prog.bytesOf 57 from Nat.le_of_ble_eq_true (by kernel_rfl))) Bw8; obtain ⟨fr, e6, q6⟩ := An underlying30 h hF 6 rfl (Es (a0 := ⟨0, 0, ByteArray.empty⟩) underlying27 Ajq Bl2 (fun _ => rfl) (by decide) (show 1 ≤ Tryz.prog.bytesOf 79 from Nat.le_of_ble_eq_true (by kernel_rfl))) Bw9; obtain ⟨no, e7, q7⟩ := An underlying30 h hF 7 rfl (Es (a0 := 0) underlying24 B0 Fx (fun _ => rfl) (by decide) (show 1 ≤ Tryz.prog.bytesOf 3 from Nat.le_of_ble_eq_true (by kernel_rfl))) Bsz; obtain ⟨li, e8, q8⟩ := An underlying30 h hF 8 rfl (Es (a0 := ByteArray.empty) underlying28 R7 Bt0 (fun _ => rfl) (by decide) (show 1 ≤ Tryz.prog.bytesOf 9 from Nat.le_of_ble_eq_true (by kernel_rfl))) Bwq; refine ⟨⟨p0, n1, n2, co.l, lk.l, sa.l, fr.l, no.l, li.l, (co.A, co.cap), (lk.A, lk.cap), (sa.A, sa.cap), (fr.A, fr.cap), (no.A, no.cap), (li.A, li.cap)⟩, ?_, ?_⟩
 ·
  have z : cs.drop 20 = [] := List.drop_of_length_le (by omega); exact (List.drop_zero (l := cs)).symm.trans (As 0 12 e0 (As 12 1 e1 (As 13 1 e2 (As 14 1 e3 (As 15 1 e4 (As 16 1 e5 (As 17 1 e6 (As 18 1 e7 (As 19 1 e8 (z))))))))))
 ·exact ⟨q3, q4, q5, q6, q7, q8⟩
theorem Ae1 : Opn enc w base held 26 slC (Jt w sdC (fun a : Sd => Jt w Aq (fun y => Bz y.1 ∧ Bz y.2) ⟨a.s.tab, a.A, a.cap⟩)) := (Es (a0 := ⟨⟨0, 0, 0, false, 0, 0, false, [], 0, 0, 0⟩, none, 0⟩) underlying26 Uj Acx (fun _ => rfl) (by decide) (show 1 ≤ Tryz.prog.bytesOf 57 from Nat.le_of_ble_eq_true (by kernel_rfl)))
theorem Adz : Opn enc w base held 27 slC (Jt w liC (fun a => a.text.size ≤ 140737488355328)) := (Es (a0 := ⟨0, 0, ByteArray.empty⟩) underlying27 Ajq Bl2 (fun _ => rfl) (by decide) (show 1 ≤ Tryz.prog.bytesOf 79 from Nat.le_of_ble_eq_true (by kernel_rfl)))
end
end
section
open Tryz Go.RowKit YtaanjifekgfemaaGreat.K YtaanjifekgfemaaGreat.W YtaanjifekgfemaaGreat.Cl
theorem A00 (l : List (Int × Int)) : Ae Aq l = lcs l := by
 induction l with
 | nil => rfl
 | cons x l ih => show Aq x ++ Ae Aq l = _; rw [ih]; rfl
theorem Az6 (l : List Int) : Ae (fun n : Int => [Value.int .i64 n]) l = ivs l := by
 induction l with
 | nil => rfl
 | cons x l ih => show [Value.int .i64 x] ++ Ae (fun n : Int => [Value.int .i64 n]) l = _; rw [ih]; rfl
theorem At2 (l : List ByteArray) : Ae (fun s : ByteArray => [Value.string s]) l = Mm l := by
 induction l with
 | nil => rfl
 | cons x l ih => show [Value.string x] ++ Ae (fun s : ByteArray => [Value.string s]) l = _; rw [ih]; rfl
def Ag6 (w : World) (r : Res) : Prop := ∃ v n xs, r = slR v n xs ∧ Sl w v n xs
theorem Gm {w : World} {v : Value} {n : Nat} {xs : List Value} (h : Sl w v n xs) : Ag6 w (slR v n xs) := ⟨v, n, xs, rfl, h⟩
theorem Af2 {w : World} (G : List Res) (h : ∀ r ∈ G, Ag6 w r) : St w [] w [] G := by
  induction G with
  | nil => exact St.start w
  | cons r G ih =>
    obtain ⟨v, n, xs, rfl, hs⟩ := h r (.head _); exact (ih fun r hr => h r (.tail _ hr)).arg hs
def Bx2 (A : Option Addr) (tab : List (Int × Int)) (cap : Nat) : Res := slR (.slice A tab.length cap) tab.length (lcs tab)
def stF (x : Sd) : Res := Bx2 x.A x.s.tab x.cap
def csF (c : Cs) : List Res := slR (.slice c.a3.1 c.core.length c.a3.2) c.core.length (ivs c.core) :: slR (.slice c.a4.1 c.links.length c.a4.2) c.links.length (Ae Aq c.links) :: slR (.slice c.a5.1 c.states.length c.a5.2) c.states.length (Ae sdC c.states) ::
  slR (.slice c.a6.1 c.frames.length c.a6.2) c.frames.length (Ae liC c.frames) :: slR (.slice c.a7.1 c.noise.length c.a7.2) c.noise.length (ivs c.noise) :: slR (.slice c.a8.1 c.lies.length c.a8.2) c.lies.length (Mm c.lies) :: c.states.map stF
theorem Tw {w : World} {c : Cs} (h : Z0 w c) : ∀ r ∈ csF c, Ag6 w r := by
 obtain ⟨h3, h4, h5, h6, h7, h8⟩ := h; have k3 := h3.1; have k7 := h7.1; have k8 := h8.1; dsimp only at k3 k7 k8; rw [Az6] at k3 k7; rw [At2] at k8; intro r hr; unfold csF at hr; rcases List.mem_cons.1 hr with rfl | hr
 ·exact Gm k3
 rcases List.mem_cons.1 hr with rfl | hr
 ·exact Gm h4.1
 rcases List.mem_cons.1 hr with rfl | hr
 ·exact Gm h5.1
 rcases List.mem_cons.1 hr with rfl | hr
 ·exact Gm h6.1
 rcases List.mem_cons.1 hr with rfl | hr
 ·exact Gm k7
 rcases List.mem_cons.1 hr with rfl | hr
 ·exact Gm k8
 obtain ⟨x, hx, rfl⟩ := List.mem_map.1 hr; have h9 := (h5.2.2 x hx).1; dsimp only at h9; rw [A00] at h9; exact Gm h9
theorem Aw8 {w : World} {c : Cs} (h : Z0 w c) {G : List Res} (hG : ∀ r ∈ csF c, r ∈ G) : c.In G := by
 obtain ⟨h3, h4, h5, h6, h7, h8⟩ := h; have m := fun (r : Res) (hr : r ∈ csF c) => hG r hr; unfold csF at m; refine ⟨Rds.ofG (m _ (.head _)), Rds.ofG (m _ (.tail _ (.head _))), Rds.ofG (m _ (.tail _ (.tail _ (.head _)))), Rds.ofG (m _ (.tail _ (.tail _ (.tail _ (.head _))))), Rds.ofG (m _ (.tail _ (.tail _ (.tail _ (.tail _ (.head _)))))), Rds.ofG (m _ (.tail _ (.tail _ (.tail _ (.tail _ (.tail _ (.head _))))))), ?_, h6.2.2, h8.2.2⟩; intro x hx; exact ⟨(h5.2.2 x hx).2.2, Rds.ofG (m _ (.tail _ (.tail _ (.tail _ (.tail _ (.tail _ (.tail _ (List.mem_map.2 ⟨x, hx, rfl⟩))))))))⟩
set_option maxRecDepth 100000 in
theorem Bm4 {w : World} (h : w.ShapedOpen Tryz.prog) : ∃ tbl : List Int, tbl.length = 20 ∧ Ag6 w (Gw tbl) := by
 have h0 : ((begin Tryz.prog (fun _ _ => 0) default).world.heap[2]?).bind Obj.row? = some (Array.replicate 20 (.int .u64 0), 321) := by kernel_rfl
 obtain ⟨cs, hh, hs, hr⟩ := h.1 2 _ _ (of_decide_eq_true (by kernel_rfl)) h0; obtain ⟨ts, hts, _, hall⟩ := hr (by kernel_rfl); have hct : Tryz.prog.cellTypes Tryz.prog.depth 321 = some (List.replicate 20 192) := by kernel_rfl
 rw [hct] at hts; injection hts with hts; subst hts; have hsz : cs.size = 20 := by simpa using hs
 have key : ∀ i, i < 20 → ∃ m : Int, w.cell? ⟨2, i, none⟩ = some (.int .u64 m) := by
  intro i hi; have h1 : i < cs.size := by omega
  obtain ⟨u, hu', hok⟩ := hall i cs[i] (by simp [h1])
  have : u = 192 := by
   rw [List.getElem?_replicate] at hu'; split at hu'
   ·injection hu' with hu'; exact hu'.symm
   ·cases hu'
  subst this; have hcell : w.cell? ⟨2, i, none⟩ = some cs[i] := by simp [World.cell?, hh, h1]
  rw [hcell]; unfold Cell.ok at hok; rw [underlying192] at hok; cases hv : cs[i] <;> rw [hv] at hok <;> simp at hok
  case int k' n => exact ⟨n, by rw [hok.1]⟩
 let f : Nat → Int := fun i => if h : i < 20 then Classical.choose (key i h) else 0
 have hf : ∀ i, i < 20 → w.cell? ⟨2, i, none⟩ = some (.int .u64 (f i)) := by
  intro i hi; have := Classical.choose_spec (key i hi); simp only [f, hi, dif_pos]; exact this
 refine ⟨(List.range 20).map f, by simp, Gm ⟨_, _, rfl, Nat.le_refl _, fun _ => ⟨_, rfl, fun j hj => ?_⟩⟩⟩; rw [List.length_map, List.length_map, List.length_range] at hj; rw [B6, Nat.zero_add, hf j hj]; simp [hj]
set_option maxRecDepth 100000 in
theorem Ba5 {H : Type} {enc : TypeId × Value → H} {w : World} {base : Nat} {held : Bool} {r : Reach} {b0 : Nat} {v : Value} {d : DataW H} {p : List MemPlace} (hv : Value.okWide Tryz.prog w r b0 30 v) (h : DataW.Trod enc Tryz.prog w base (fun _ => true) held 30 v d p) (hF : Z3 30 d) : ∃ c : Cs, v = .agg (csC c).toArray ∧ Z0 w c := by
 obtain ⟨cs, rfl, hsz⟩ := Go.WideShapes.okWide_struct underlying30 hv; obtain ⟨fuel, hf⟩ := h; obtain ⟨c, h1, h2⟩ := A23 fuel _ _ hf hF; have e : (Value.agg cs).cells.toList = cs.toList := by simp [Value.cells]
 rw [e] at h1; have h3 : cs.toList = csC c := h1; exact ⟨c, by rw [← h3], h2⟩
set_option maxRecDepth 100000 in
theorem Al6 {H : Type} {enc : TypeId × Value → H} {w : World} {base : Nat} {held : Bool} {r : Reach} {b0 : Nat} {t e : TypeId} (ht : Tryz.prog.underlying t = some (.slice e)) {α : Type} {c : α → List Value} {Q : α → Prop} (ho : Opn enc w base held t slC (Jt w c Q)) {v : Value} {d : DataW H} {p : List MemPlace} (hv : Value.okWide Tryz.prog w r b0 t v) (h : DataW.Trod enc Tryz.prog w base (fun _ => true) held t v d p) (hF : Z3 t d) : ∃ s : SlOf α, v = .slice s.A s.l.length s.cap ∧ Jt w c Q s := by
 obtain ⟨A, len, cap, rfl⟩ := Go.WideShapes.okWide_slice ht hv; obtain ⟨fuel, hf⟩ := h; obtain ⟨s, h1, h2⟩ := ho fuel _ _ hf hF; have e : (Value.slice A len cap).cells.toList = [.slice A len cap] := by simp [Value.cells]
 rw [e] at h1; injection h1 with h1 _; exact ⟨s, h1, h2⟩
end
end Go.Proofs.YtaanjifekgfemaaGreat.Op
namespace Go.Proofs.YtaanjifekgfemaaGreat.Cl
section
open Tryz Go.RowKit YtaanjifekgfemaaGreat.K YtaanjifekgfemaaGreat.W YtaanjifekgfemaaGreat.LN
theorem StepW.reG {p : Par} {s : Stp} {G G1 G' : List Res} {x x' : Wd} (h : StepW p s G1 G' x x') (hG : ∀ r ∈ G, r ∈ G') : StepW p s G G' x x' := by
 obtain ⟨ms1, sd, hr, he⟩ := h.run; exact ⟨⟨ms1, sd, ⟨hr.len, hr.done, hr.left, hr.left2, hr.un, hr.ok, hr.msg, hG⟩, he⟩, h.time, h.links, h.un, h.ub⟩
def Ft (c : Cs) (nd : Nat) : List (Int × Int) := lnk (Ai c.p.N.toNat nd) c.p.N.toNat c.core c.links
inductive RunT (c : Cs) (nd : Nat) : Nat → Wd → Nat → Nat → Prop
  | start (x : Wd) (G : List Res) : x.Ok c.p nd G → x.time = Ak c.time → x.links = Ft c nd → RunT c nd 0 x 0 0
  | step {b : Nat} {x x' : Wd} {n l : Nat} {stp : Stp} {G G' : List Res} : RunT c nd b x n l → x.Ok c.p nd G → x'.Ok c.p nd G' → StpOf c (Ai c.p.N.toNat nd) x.time n l stp → StepW c.p stp G G' x x' → RunT c nd (b + 1) x' (Ah0 c (Ai c.p.N.toNat nd) x.time n l) (Agz c (Ai c.p.N.toNat nd) x.time n l)
theorem A92 (c : Cs) (us : List Int) (time : Int) (n l : Nat) (hu : us.length ≤ 13) (hN : c.p.N ≤ 7) : Ah0 c us time n l ≤ n + 200 ∧ Agz c us time n l ≤ l + 200 := by
 unfold Ah0 Agz; obtain ⟨_, _, h3⟩ := Ag8 c us n us.length (Nat.le_refl _)
 obtain ⟨_, _, h6, h7⟩ := Au9 c us time (TKf c us n us.length).1 l c.p.N.toNat
 have h8 : us.length * (us.length + 1) ≤ 13 * 14 := Nat.mul_le_mul (by omega) (by omega); have h9 : c.p.N.toNat * us.length ≤ 7 * 13 := Nat.mul_le_mul (by omega) (by omega); omega
theorem RunT.nl {c : Cs} {nd b : Nat} {x : Wd} {n l : Nat} (h : RunT c nd b x n l) (hN : c.p.N ≤ 7) (hd : nd ≤ 6) : n ≤ 200 * b ∧ l ≤ 200 * b := by
  induction h with
  | start x G _ _ _ => exact ⟨Nat.le_refl _, Nat.le_refl _⟩
  | @step b x x' n l stp G G' h _ _ _ _ ih =>
    have := A92 c (Ai c.p.N.toNat nd) x.time n l (by rw [Eu]; omega) hN; omega
theorem RunT.links {c : Cs} {nd b : Nat} {x : Wd} {n l : Nat} (h : RunT c nd b x n l) : x.links = Ft c nd := by
 induction h with
 | start x G _ _ h => exact h
 | step h _ _ ho hs ih => rw [hs.links_id ho.cut ho.join, ih]
theorem RunT.time_in {c : Cs} {nd b : Nat} {x : Wd} {n l : Nat} (h : RunT c nd b x n l) : -2305843009213693952 ≤ x.time ∧ x.time ≤ 2305843009213693952 := by
 cases h with
 | start x G _ h _ => rw [h]; exact Bw _
 | step h _ _ ho hs => rw [hs.time]; exact Ga _
theorem RunT.ok {c : Cs} {nd b : Nat} {x : Wd} {n l : Nat} (h : RunT c nd b x n l) : ∃ G, x.Ok c.p nd G := by
 cases h with
 | start x G h _ _ => exact ⟨G, h⟩
 | step _ _ h _ _ => exact ⟨_, h⟩
theorem Ry {c : Cs} {nd : Nat} {beats : Int} (h : c.Small beats) : (Ft c nd).length ≤ 1000 := by
 have h1 := Bd1 (Ai c.p.N.toNat nd) c.p.N.toNat c.core c.links; have h2 := h.core; have h3 := h.links; have h4 := h.N; have h5 : c.p.N.toNat * (c.p.N.toNat + c.core.length) ≤ 7 * (7 + 20) := Nat.mul_le_mul (by omega) (by omega); unfold Ft; omega
inductive Near (c : Cs) (nd : Nat) : Nat → Nat → Prop
  | core {v : Nat} : v < nd → (v : Int) ∈ c.core → Near c nd 0 v
  | way {k u v : Nat} : Near c nd k u → v < nd → (((u : Int), (v : Int)) ∈ c.links ∨ ((v : Int), (u : Int)) ∈ c.links) → Near c nd (k + 1) v
def Px (c : Cs) (nd : Nat) (a : List Int) : Prop := a.length = 48 ∧ (∀ i, i < 48 → 0 ≤ a.getD i 0 ∧ a.getD i 0 ≤ 17) ∧ ∀ v : Nat, v < nd → a.getD (16 + v) 0 ≤ c.p.D → Near c nd (a.getD (16 + v) 0).toNat v
theorem Gj {a : List Int} (i j : Nat) (v : Int) (h : i < a.length) : (a.set i v).getD j 0 = if i = j then v else a.getD j 0 := by
 rw [List.getD_eq_getElem?_getD, List.getD_eq_getElem?_getD, List.getElem?_set]
 by_cases e : i = j
 ·subst e; rw [if_pos rfl, if_pos rfl, if_pos h]; rfl
 ·rw [if_neg e, if_neg e]
def I3 (c : Cs) (a : List Int) (k : Nat) : Prop := a.length = 48 ∧ (∀ i, i < 48 → 0 ≤ a.getD i 0 ∧ a.getD i 0 ≤ 17) ∧ ∀ i, i < k → 16 ≤ i → i < 48 → a.getD i 0 = c.p.D + 1
theorem I3.zero (c : Cs) : I3 c (List.replicate 48 0) 0 := by
 refine ⟨by simp, fun i hi => ?_, fun i hi => absurd hi (Nat.not_lt_zero _)⟩; rw [List.getD_eq_getElem?_getD, List.getElem?_replicate, if_pos hi]
 decide
theorem I3.set {c : Cs} {a : List Int} {k : Nat} (h : I3 c a k) (hD : 0 ≤ c.p.D ∧ c.p.D ≤ 16) (hk : k < 48) : I3 c (a.set k (c.p.D + 1)) (k + 1) := by
 obtain ⟨h1, h2, h3⟩ := h; refine ⟨by rw [List.length_set]; exact h1, fun i hi => ?_, fun i hi h16 h48 => ?_⟩
 ·rw [Gj _ _ _ (by omega)]; split
  ·omega
  ·exact h2 i hi
 ·rw [Gj _ _ _ (by omega)]; split
  ·rfl
  ·exact h3 i (by omega) h16 h48
theorem I3.gate {c : Cs} {a : List Int} {k : Nat} (h : I3 c a k) {i : Nat} (hi : i < 16) : I3 c (a.set i 0) k := by
 obtain ⟨h1, h2, h3⟩ := h; refine ⟨by rw [List.length_set]; exact h1, fun j hj => ?_, fun j hj h16 h48 => ?_⟩
 ·rw [Gj _ _ _ (by omega)]; split
  ·decide
  ·exact h2 j hj
 ·rw [Gj _ _ _ (by omega), if_neg (by omega)]; exact h3 j hj h16 h48
theorem I3.ok {c : Cs} {nd : Nat} {a : List Int} (h : I3 c a 48) (hn : nd ≤ 32) : Px c nd a := by
 obtain ⟨h1, h2, h3⟩ := h; refine ⟨h1, h2, fun v hv hd => ?_⟩; rw [h3 (16 + v) (by omega) (by omega) (by omega)] at hd; omega
theorem Px.core {c : Cs} {nd : Nat} {a : List Int} (h : Px c nd a) (hn : nd ≤ 32) {v : Nat} (hv : v < nd) (hm : (v : Int) ∈ c.core) : Px c nd (a.set (16 + v) 0) := by
 obtain ⟨h1, h2, h3⟩ := h; refine ⟨by rw [List.length_set]; exact h1, fun j hj => ?_, fun u hu hd => ?_⟩
 ·rw [Gj _ _ _ (by omega)]; split
  ·decide
  ·exact h2 j hj
 ·rw [Gj _ _ _ (by omega)] at hd ⊢; split
  ·rename_i e; obtain rfl : v = u := by omega
   exact Near.core hv hm
  ·rename_i e; rw [if_neg e] at hd; exact h3 u hu hd
end
section
open Tryz Go.RowKit YtaanjifekgfemaaGreat.K YtaanjifekgfemaaGreat.W YtaanjifekgfemaaGreat.LN
attribute [local irreducible] Bg Ak Bb sub neg mag Da mul Dy
theorem Bj2 : CF 16 := fun _ _ => by simp [go_sem]
theorem Cs.In.moreC {G G' : List Res} {c : Cs} (h : c.In G) (hG : ∀ r ∈ G, r ∈ G') : c.In G' := h.mono hG
theorem Ut {p : Par} (hp : p.Ok) : 0 ≤ settle p := by
 have h1 := hp.D; have h2 := hp.Mu; have h3 := hp.Rho
 have h4 := hp.Beat
 have h5 : sub p.Mu p.Rho = p.Mu - p.Rho := Mn (by omega) (by omega); have h6 := mul_nonneg (a := 3) (b := Ju p p.Hold p.D) (by decide) (Nt hp (by have := hp.Hold; omega) h1.1); refine Gg _ ?_; intro x hx; simp only [List.mem_cons, List.not_mem_nil, or_false] at hx; rcases hx with rfl | rfl | rfl
 ·exact mul_nonneg (by decide) h1.1
 ·decide
 ·rw [h5]; exact Int.ediv_nonneg (by omega) (by omega)
theorem Sq {c : Cs} {beats : Int} (hs : c.Small beats) {nd : Nat} (hnd : c.nodes = (nd : Int)) : nd ≤ 6 := by have := hs.nodes; omega
set_option maxHeartbeats 4000000 in
theorem Pg (tbl : List Int) (htl : tbl.length = 20) (c : Cs) (beats : Int) (hs : c.Small beats) (nd : Nat) (hnd : c.nodes = (nd : Int)) (w0 w : World) (F0 : List Nat) (L G : List Res) (I : St w0 F0 w L G) (hin : c.In G) (hrn : Rds [] G (.slice none 0 0) 0 []) (hpw : Gw tbl ∈ G) :
  Calls Tryz.prog 14 #[.agg (csC c).toArray] w fun e w' => ∃ (rb wb : Nat) (x : Wd) (n l : Nat) (G' : List Res), e = .returned (.pointer (some ⟨rb, 0, none⟩)) ∧ RunT c nd (settle c.p).toNat x n l ∧ x.Ok c.p nd G' ∧ (∀ r ∈ G, r ∈ G') ∧ St w0 F0 w' (Aa rb (Fy c wb (n) (l)) 47 :: x.res c.p wb L) G' := by
 have hok := hs.ok; have hn6 := Sq hs hnd; have hse := hs.settle; have hs0 := Ut hok; refine W.func func14 O ntmps14 O<|Wh O<|Ow O (X.boxA I O fun p1 w1 I => I.y O (Y.assignP O)<|Ds O O<|I.y O (Y.loadA 0 isAgg30 sizeOf30 O O O O)<|Oc O cf8 O ?_); refine Ab (Amx c beats hs nd hnd _ _ _ _ _ I hin hrn) O ?_; clear I; rintro e w6 ⟨rb, wb, x0, G1, rfl, hx0, hG1, htm, hlk0, I⟩; replace I := ((I.resDn [_]).resUp [_, _]).up_1; refine ⟨_, O, ?_⟩; refine I.y O (Y.assignP O)<|Od O<|Wq O<|Wh O<|I.a O O<|Od O<|Wb O<|?_; refine W.loop (γ := Nat × Wd × Nat × Nat × List Res) [(1, .pointer _), (3, .pointer _)] (fun x_ => [(4, .int .i64 (x_.1 : Int))]) (fun x_ w => (x_.1 ≤ (settle c.p).toNat ∧ RunT c nd x_.1 x_.2.1 x_.2.2.1 x_.2.2.2.1 ∧ x_.2.1.Ok c.p nd x_.2.2.2.2 ∧ ∀ r ∈ G, r ∈ x_.2.2.2.2) ∧ St w0 F0 w (Aa p1 (csC c) 30 :: Aa rb (Fy c wb (x_.2.2.1) (x_.2.2.2.1)) 47 :: x_.2.1.res c.p wb L) x_.2.2.2.2) (fun x_ => (settle c.p).toNat - x_.1) ((0, x0, 0, 0, G1)) O ⟨O, O, trivial⟩ ?_ ?_ ?_
 ·exact ⟨O, trivial⟩
 ·exact ⟨⟨Nat.zero_le _, RunT.start x0 G1 hx0 htm hlk0, hx0, hG1⟩, I⟩
 ·clear I; rintro ⟨k, x, n, l, G1⟩ j w3 ⟨⟨hk, hrun, hx, hG1⟩, I⟩; dsimp only at hk hrun hx hG1 I; refine Wq O<|Wh O<|I.u O O<|I.f Jy O O<|I.y O (Y.loadA 0 isAgg23 sizeOf23 O O O O)<|Ow O (X.ret Br4 (Sn c.p _ _ _ _ _ I hok) O fun _ I => I.v O O O (fun b11 hb11 => I.b O O<|?_)); cases b11
  ·replace hb11 := dF hb11; refine On O<|On O<|I.k O O O<|Od O<|Wu O O<|W.exit O<|Wh O<|I.p O O<|I.y O (Y.assignP O)<|Od O<|We O<|⟨_, Ac.one results14 O, ?_⟩; obtain rfl : k = (settle c.p).toNat := by omega
   exact ⟨rb, wb, x, n, l, G1, O, hrun, hx, hG1, (I.dr 1)⟩
  ·replace hb11 := dT hb11; refine I.p O O<|I.y O (Y.notNil underlying34 O O)<|I.k O O O<|Od O<|Wt O O<|Wk O<|Wq O<|Wb O<|Wr O<|I.p O O<|Oc O Bj2 O ?_; refine Ab (Oo tbl htl rb c wb n l nd hnd hn6 hok hs.N hs.noise hs.lies (by have := (hrun.nl hs.N hn6).1; omega) (by have := (hrun.nl hs.N hn6).2; omega) x (Ai c.p.N.toNat nd) rfl (by rw [hrun.links]; exact Nat.le_trans (Ry hs) (by decide)) hrun.time_in _ _ _ _ _ ((I.up_1.resDn [_, _]).resUp [_]) hx (hin.moreC hG1) (hrn.moreG hG1) (hG1 _ hpw)) O ?_; clear I; rintro e w19 ⟨stp, x2, G3, G2, rfl, hof, hst9, hx2, hG2, I⟩; replace I := ((I.resDn [_]).resUp [_, _]).up_1; refine ⟨_, O, ?_⟩; refine Od O<|Wr O<|I.u O O<|I.j O O O (by omega)<|I.a O O<|Od O<|?_; exact ⟨(k + 1, x2, _, _, G2), ⟨O, trivial⟩, ⟨O, O, trivial⟩, ⟨⟨by dsimp only; omega, RunT.step hrun hx hx2 hof (hst9.reG hG2), hx2, fun r hr => hG2 r (hG1 r hr)⟩, I⟩, by dsimp only; omega⟩
end
section
open Tryz Go.RowKit YtaanjifekgfemaaGreat.K YtaanjifekgfemaaGreat.W YtaanjifekgfemaaGreat.LN
def Az4 (p : Par) (who : Int) : Prop := 16 ≤ who ∨ who < p.N - p.F
def Tl (c : Cs) (nd : Nat) (who : Int) : Prop := Az4 c.p who ∧ (who < 16 ∨ ∃ (v k : Nat), who = 16 + (v : Int) ∧ (k : Int) ≤ c.p.D ∧ Near c nd k v)
def A7x (c : Cs) (nd : Nat) (x : Wd) : Prop := (∀ m ∈ x.ms, Tl c nd m.u.who → Bq c.p m.u.s ≠ 0) ∧ ∀ m ∈ x.ms, ∀ m' ∈ x.ms, Tl c nd m.u.who → Tl c nd m'.u.who → Cn c.p m.u.s.time - Cn c.p m'.u.s.time ≤ 1
def U8 (c : Cs) (nd : Nat) (x : Wd) (lo hi : Int) (b : Bool) : Prop := (b = false → lo = 0 ∧ hi = 0) ∧ (b = true → (∃ m ∈ x.ms, Tl c nd m.u.who ∧ lo = Cn c.p m.u.s.time) ∧ ∃ m ∈ x.ms, Tl c nd m.u.who ∧ hi = Cn c.p m.u.s.time)
theorem U8.start (c : Cs) (nd : Nat) (x : Wd) : U8 c nd x 0 0 false := ⟨fun _ => ⟨rfl, rfl⟩, (fun h => by cases h)⟩
theorem U8.step {c : Cs} {nd : Nat} {x : Wd} {lo hi lo' hi' : Int} {b : Bool} (h : U8 c nd x lo hi b) {m : UM} (hm : m ∈ x.ms) (ha : Tl c nd m.u.who) (hl : (b = false → lo' = Cn c.p m.u.s.time) ∧ (b = true → lo' = min lo (Cn c.p m.u.s.time)))
    (hh : (b = false → hi' = Cn c.p m.u.s.time) ∧ (b = true → hi' = max hi (Cn c.p m.u.s.time))) : U8 c nd x lo' hi' true := by
  refine ⟨(fun h => by cases h), fun _ => ?_⟩
  cases b with
  | false => exact ⟨⟨m, hm, ha, hl.1 rfl⟩, m, hm, ha, hh.1 rfl⟩
  | true =>
    obtain ⟨h1, h2⟩ := h.2 rfl; refine ⟨?_, ?_⟩
    · rcases (show lo' = lo ∨ lo' = Cn c.p m.u.s.time by have := hl.2 rfl; omega) with e | e
      · rw [e]; exact h1
      · exact ⟨m, hm, ha, e⟩
    · rcases (show hi' = hi ∨ hi' = Cn c.p m.u.s.time by have := hh.2 rfl; omega) with e | e
      · rw [e]; exact h2
      · exact ⟨m, hm, ha, e⟩
theorem U8.ok {c : Cs} {nd : Nat} {x : Wd} {lo hi : Int} {b : Bool} (h : U8 c nd x lo hi b) (hb : A7x c nd x) : hi - lo ≤ 1 := by
  cases b with
  | false => have := h.1 rfl; omega
  | true =>
    obtain ⟨⟨m, hm, ha, rfl⟩, m', hm', ha', rfl⟩ := h.2 rfl; exact hb.2 m' hm' m hm ha' ha
theorem U8.range {c : Cs} {nd : Nat} {x : Wd} {lo hi : Int} {b : Bool} (h : U8 c nd x lo hi b) : (-2305843009213693952 ≤ lo ∧ lo ≤ 2305843009213693952) ∧ -2305843009213693952 ≤ hi ∧ hi ≤ 2305843009213693952 := by
  cases b with
  | false => have := h.1 rfl; omega
  | true =>
    obtain ⟨⟨m, hm, ha, rfl⟩, m', hm', ha', rfl⟩ := h.2 rfl; exact ⟨R9 _ _, R9 _ _⟩
def Bfz (s t : Stt) : Prop := s.hops = t.hops ∧ s.good = t.good ∧ (s.good = true → (s.lo = t.lo ∧ s.hi = t.hi) ∧ s.held = t.held)
def Bc6 (p : Par) (who : Int) : Prop := 16 ≤ who ∨ who < p.N - p.F
def Bfq (p : Par) (x y : Wd) : Prop := ∀ (k : Nat) (m m' : UM), x.ms[k]? = some m → y.ms[k]? = some m' → Bc6 p m.u.who → Bfz m.u.s m'.u.s
theorem As4 {L L' : List Res} (h : L.Perm L') (x : Wd) (p : Par) (wb : Nat) : (x.res p wb L).Perm (x.res p wb L') := by
 unfold Wd.res; exact (((((h.append_left _).append_left _).cons _).cons _).cons _)
theorem Ae7 {x y : Wd} {k : Nat} {m m' : UM} (hk : x.ms[k]? = some m) (hk' : y.ms[k]? = some m') (p : Par) (wb wb' : Nat) (L : List Res) : ∃ (T T' : TypeId) (rest rest' : List Value) (L' : List Res), (y.res p wb' (x.res p wb L)).Perm (frR m.fb T p m.u.s m.A m.cap rest :: frR m'.fb T' p m'.u.s m'.A m'.cap rest' :: L') := by
 obtain ⟨T, rest, L1, h1⟩ := Oq hk p wb L; obtain ⟨T', rest', L2, h2⟩ := Oq hk' p wb' L1; refine ⟨T, T', rest, rest', L2, ?_⟩; exact ((As4 h1 y p wb').trans (Bv [_] y p wb' L1).symm).trans (h2.cons _)
theorem Ec (pre : List Res) (x y : Wd) (p : Par) (wb wb' : Nat) (L : List Res) : (pre ++ y.res p wb' (x.res p wb L)).Perm (x.res p wb (pre ++ y.res p wb' L)) := Gh fun P => by
 unfold Wd.res; simp only [List.countP_append, List.countP_cons]; omega
theorem Uq (a b r s : Res) (x y : Wd) (p : Par) (wb wb' : Nat) (L : List Res) : (a :: b :: r :: s :: y.res p wb' (x.res p wb L)).Perm (r :: x.res p wb (a :: b :: s :: y.res p wb' L)) := Gh fun P => by
 unfold Wd.res; simp only [List.countP_append, List.countP_cons]; omega
theorem Ou (a b r s : Res) (x y : Wd) (p : Par) (wb wb' : Nat) (L : List Res) : (a :: b :: r :: s :: y.res p wb' (x.res p wb L)).Perm (s :: y.res p wb' (a :: b :: r :: x.res p wb L)) := Gh fun P => by
 unfold Wd.res; simp only [List.countP_append, List.countP_cons]; omega
theorem As7 (a b r : Res) (x : Wd) (p : Par) (wb : Nat) (L : List Res) : (r :: x.res p wb (a :: b :: L)).Perm (a :: b :: r :: x.res p wb L) := Gh fun P => by
 unfold Wd.res; simp only [List.countP_append, List.countP_cons]; omega
theorem As8 (a b r s : Res) (x y : Wd) (p : Par) (wb wb' : Nat) (L : List Res) : (s :: y.res p wb' (a :: b :: r :: x.res p wb L)).Perm (a :: b :: r :: s :: y.res p wb' (x.res p wb L)) := (Ou a b r s x y p wb wb' L).symm
theorem A44 (x y : Wd) (p : Par) (wb wb' : Nat) (L : List Res) : L.Sublist (y.res p wb' (x.res p wb L)) := (Ws x p wb L).trans (Ws y p wb' _)
theorem Xt {pre L' : List Res} {R : List Res} {f f' : Res} (h : R.Perm (f :: f' :: L')) : (pre ++ R).Perm (f :: f' :: (pre ++ L')) := Gh fun P => by
 have := h.countP_eq P; simp only [List.countP_append, List.countP_cons] at this ⊢; omega
end
section
open Tryz Go.RowKit YtaanjifekgfemaaGreat.K YtaanjifekgfemaaGreat.W
theorem Zi (l : List Int) : (srt l).Perm l := List.mergeSort_perm ..
theorem Ss (l : List Int) : (srt l).Pairwise fun x y => x ≤ y := by
 have h := List.pairwise_mergeSort (le := fun x y : Int => decide (x ≤ y)) (fun a b c h1 h2 => by simp only [decide_eq_true_eq] at *; omega) (fun a b => by simp only [Bool.or_eq_true, decide_eq_true_eq]; omega) l; exact h.imp fun h => by simpa using h
theorem Ad2 {l : List Int} {k : Nat} {a : Int} (hk : k < l.length) (h : k + 1 ≤ l.countP (fun x => decide (x ≤ a))) : (srt l).getD k 0 ≤ a := by
 have hs := Ss l; have hl : (srt l).length = l.length := Mk l; rw [← (Zi l).countP_eq] at h; generalize srt l = s at hs hl h; refine Classical.byContradiction fun hc => ?_; have hks : k < s.length := by omega
 have e : s.getD k 0 = s[k] := by simp [hks]
 rw [e] at hc; rw [← List.take_append_drop k s, List.countP_append] at h; have h1 : (s.take k).countP (fun x => decide (x ≤ a)) ≤ k := Nat.le_trans List.countP_le_length (by rw [List.length_take]; omega)
 have h2 : (s.drop k).countP (fun x => decide (x ≤ a)) = 0 := by
  rw [List.countP_eq_zero]; intro x hx; obtain ⟨j, hj, rfl⟩ := List.getElem_of_mem hx; rw [List.getElem_drop]; rw [List.length_drop] at hj; rw [List.pairwise_iff_getElem] at hs
  by_cases hj0 : j = 0
  ·subst hj0; simpa using hc
  ·have := hs k (k + j) hks (by omega) (by omega); simp only [decide_eq_true_eq]; omega
 omega
theorem Ad1 {l : List Int} {k : Nat} {a : Int} (hk : k < l.length) (h : l.countP (fun x => decide (x < a)) ≤ k) : a ≤ (srt l).getD k 0 := by
 have hs := Ss l; have hl : (srt l).length = l.length := Mk l; rw [← (Zi l).countP_eq] at h; generalize srt l = s at hs hl h; refine Classical.byContradiction fun hc => ?_; have hks : k < s.length := by omega
 have e : s.getD k 0 = s[k] := by simp [hks]
 rw [e] at hc; rw [← List.take_append_drop (k + 1) s, List.countP_append] at h
 have h1 : (s.take (k + 1)).countP (fun x => decide (x < a)) = (s.take (k + 1)).length := by
  rw [List.countP_eq_length]; intro x hx; obtain ⟨j, hj, rfl⟩ := List.getElem_of_mem hx; rw [List.getElem_take]; rw [List.length_take] at hj; rw [List.pairwise_iff_getElem] at hs; simp only [decide_eq_true_eq]
  by_cases hjk : j = k
  ·subst hjk; omega
  ·have := hs j k (by omega) hks (by omega); omega
 rw [List.length_take] at h1; omega
def Bh (s : Sp) (t g : Int) : Prop := (t - g ≤ s.lo ∧ s.lo ≤ t) ∧ t ≤ s.hi ∧ s.hi ≤ t + g
instance (s : Sp) (t g : Int) : Decidable (Bh s t g) := by unfold Bh; infer_instance
theorem Ia {α : Type} {l : List α} {p q : α → Bool} (h : ∀ x ∈ l, p x = true → q x = true) : l.countP p ≤ l.countP q := List.countP_mono_left h
theorem Ao2 {F : Int} {l : List Sp} {t g : Int} (hF : 0 ≤ F) (hn : 2 * F + 1 ≤ (l.length : Int)) (hbad : (l.countP (fun s => !decide (Bh s t g)) : Int) ≤ F) (hg : 0 ≤ g) (ht : -1152921504606846976 ≤ t - g ∧ t + g ≤ 1152921504606846976) :
  Fc F l ∧ Bh (Db F l) t g := by
 obtain ⟨f, rfl⟩ : ∃ f : Nat, F = (f : Int) := ⟨F.toNat, by omega⟩; have hll : (Dv l).length = l.length := by simp [Dv]
 have hlh : (D8 l).length = l.length := by simp [D8]
 have hm : Ja (f : Int) l.length := by unfold Ja; omega
 have hgood : l.length ≤ l.countP (fun s => decide (Bh s t g)) + f := by
  have := List.length_eq_countP_add_countP (fun s => decide (Bh s t g)) (l := l)
  have e : l.countP (fun s => !decide (Bh s t g)) = l.countP (fun a => decide (¬ (decide (Bh a t g) = true))) := by
   congr 1
   funext a
   cases decide (Bh a t g) <;> rfl
  omega
 have hok1 : Bx (f : Int) (Dv l) := by unfold Bx; omega
 have hok2 : Bx (f : Int) (D8 l) := by unfold Bx; omega
 have hok3 : Bx ((Dv l).length - 1 - (f : Int)) (Dv l) := by unfold Bx; omega
 have elo : K2 (f : Int) (Dv l) = (srt (Dv l)).getD (l.length - 1 - f) 0 := by
  unfold K2 Dt; rw [if_pos hok1, if_pos hok3, hll]
  congr 1
  omega
 have ehi : Dt (f : Int) (D8 l) = (srt (D8 l)).getD f 0 := by
  unfold Dt; rw [if_pos hok2]; rfl
 have cl : ∀ (p : Int → Bool), (Dv l).countP p = l.countP (fun s => p s.lo) := fun p => by unfold Dv; rw [List.countP_map]; rfl
 have ch : ∀ (p : Int → Bool), (D8 l).countP p = l.countP (fun s => p s.hi) := fun p => by unfold D8; rw [List.countP_map]; rfl
 have m1 : l.countP (fun s => decide (Bh s t g)) ≤ (Dv l).countP (fun x => decide (x ≤ t)) := by
  rw [cl]; exact Ia fun s _ h => by simp only [decide_eq_true_eq] at *; exact h.1.2
 have m3 : l.countP (fun s => decide (Bh s t g)) ≤ (D8 l).countP (fun x => decide (x ≤ t + g)) := by
  rw [ch]; exact Ia fun s _ h => by simp only [decide_eq_true_eq] at *; exact h.2.2
 have m2 : (Dv l).countP (fun x => decide (x < t - g)) ≤ l.countP (fun s => !decide (Bh s t g)) := by
  rw [cl]; exact Ia fun s _ h => by
   simp only [decide_eq_true_eq, Bool.not_eq_true', decide_eq_false_iff_not] at *; unfold Bh; omega
 have m4 : (D8 l).countP (fun x => decide (x < t)) ≤ l.countP (fun s => !decide (Bh s t g)) := by
  rw [ch]; exact Ia fun s _ h => by
   simp only [decide_eq_true_eq, Bool.not_eq_true', decide_eq_false_iff_not] at *; unfold Bh; omega
 have a1 : K2 (f : Int) (Dv l) ≤ t := by rw [elo]; exact Ad2 (by omega) (by omega)
 have a2 : t - g ≤ K2 (f : Int) (Dv l) := by rw [elo]; exact Ad1 (by omega) (by omega)
 have a3 : Dt (f : Int) (D8 l) ≤ t + g := by rw [ehi]; exact Ad2 (by omega) (by omega)
 have a4 : t ≤ Dt (f : Int) (D8 l) := by rw [ehi]; exact Ad1 (by omega) (by omega)
 have hf : Fc (f : Int) l := ⟨hm, by omega⟩; refine ⟨hf, ?_⟩; unfold Db; rw [if_pos hf]; unfold Sp.of Bh; dsimp only; rw [Ay (by omega), Ay (by omega)]; omega
theorem K3 {a b : Int} (ha : 0 ≤ a ∧ a ≤ 2305843009213693952) (hb : 0 ≤ b ∧ b ≤ 2305843009213693952) (h : a * b ≤ 2305843009213693952) : mul a b = a * b := by
 have hc : ¬ ((a < 0 ∧ ¬ b < 0) ∨ (¬ a < 0 ∧ b < 0)) := by omega
 have ea : mag a = a := by unfold mag; rw [if_neg (by omega), Ay (by omega)]
 have eb : mag b = b := by unfold mag; rw [if_neg (by omega), Ay (by omega)]
 unfold mul; rw [if_neg hc, ea, eb]; unfold Da; rw [if_pos]
 by_cases h0 : a = 0
 ·exact .inl h0
 ·refine .inr ?_; rw [Int.le_ediv_iff_mul_le (by omega), Int.mul_comm]; exact h
theorem Tn {a b : Int} (ha : 0 ≤ a) (hb : 0 ≤ b) (h : a + b ≤ 2305843009213693952) : Bb [a, b] = a + b := by
 show Ak (Ak (0 + Ak a) + Ak b) = a + b; rw [Ay (x := a) (by omega), Int.zero_add, Ay (x := a) (by omega), Ay (x := b) (by omega), Ay (by omega)]
theorem Bg1 {a b d : Int} (ha : 0 ≤ a) (hb : 0 ≤ b) (hd : 0 ≤ d) (h : a + b + d ≤ 2305843009213693952) : Bb [a, b, d] = a + b + d := by
 show Ak (Ak (Ak (0 + Ak a) + Ak b) + Ak d) = a + b + d; rw [Ay (x := a) (by omega), Int.zero_add, Ay (x := a) (by omega), Ay (x := b) (by omega), Ay (x := a + b) (by omega), Ay (x := d) (by omega), Ay (by omega)]
def I9 (p : Par) : Int := p.Jitter + 2 * p.Rho
def gN (p : Par) : Int := 2 * p.Eps + I9 p
def rN (p : Par) (h : Int) : Int := gN p + (h + 1) * I9 p
theorem Ay9 {p : Par} (hp : p.Ok) : hop p = I9 p := by
 have := hp.Beat; have := hp.Rho; have := hp.Jitter; have := hp.Delay; unfold hop I9; rw [K3 (by decide) (by omega) (by omega), Tn (by omega) (by omega) (by omega)]
theorem He {p : Par} (hp : p.Ok) : 0 ≤ I9 p ∧ I9 p ≤ 1099511627776 := by
 have := hp.Beat; have := hp.Rho; have := hp.Jitter; have := hp.Delay; unfold I9; omega
theorem O8 {p : Par} (hp : p.Ok) : 0 ≤ gN p ∧ gN p ≤ 3298534883328 := by
 have := hp.Eps; have := He hp; unfold gN; omega
theorem Ay4 {p : Par} (hp : p.Ok) : M7 p = 2 * gN p := by
 have h1 := hp.Eps; have h2 := He hp; have h3 := O8 hp; unfold M7; rw [Ay9 hp, K3 (a := 2) (b := p.Eps) (by decide) (by omega) (by omega), Tn (by omega) (by omega) (by omega)]; exact K3 (by decide) (by unfold gN at h3; omega) (by unfold gN at h3; omega)
theorem A76 {p : Par} (hp : p.Ok) {h k : Int} (hh : 0 ≤ h ∧ h ≤ 1048576) (hk : 0 ≤ k ∧ k ≤ 17) : Ju p h k = 2 * gN p + 2 * p.Rho * h + (k + 1) * I9 p ∧ 2 * p.Rho * h ≤ 288230376151711744 := by
 have h1 := hp.Rho; have h2 := hp.Beat; have h3 := He hp; have h4 := O8 hp; have e1 : 2 * p.Rho * h ≤ 274877906944 * 1048576 := Int.mul_le_mul (by omega) hh.2 hh.1 (by decide); have e2 : (k + 1) * I9 p ≤ 18 * 1099511627776 := Int.mul_le_mul (by omega) h3.2 h3.1 (by decide); have e3 : 0 ≤ 2 * p.Rho * h := Int.mul_nonneg (by omega) hh.1; have e4 : 0 ≤ (k + 1) * I9 p := Int.mul_nonneg (by omega) h3.1; refine ⟨?_, by omega⟩; unfold Ju; rw [Ay4 hp, Ay9 hp, K3 (a := 2) (b := p.Rho) (by decide) (by omega) (by omega), K3 (a := 2 * p.Rho) (b := h) (by omega) (by omega) (by omega), Tn (a := k) (b := 1) (by omega) (by decide) (by omega), K3 (a := k + 1) (b := I9 p) (by omega) (by omega) (by omega)]; exact Bg1 (by omega) e3 e4 (by omega)
theorem Asq {p : Par} (hp : p.Ok) (hs : settle p ≤ 80) : ∃ q : Int, 0 ≤ q ∧ settle p = 2 * p.D + 6 + q ∧ 3 * Ju p p.Hold p.D ≤ q * (p.Mu - p.Rho) ∧ q ≤ 74 := by
 have h1 := hp.Rho; have h2 := hp.Beat; have h3 := hp.Mu; have h4 := hp.Hold; have h5 := hp.D; obtain ⟨e1, e2⟩ := A76 hp (h := p.Hold) (k := p.D) (by omega) (by omega); have h6 := He hp; have h7 := O8 hp; have e3 : (p.D + 1) * I9 p ≤ 18 * 1099511627776 := Int.mul_le_mul (by omega) h6.2 h6.1 (by decide); have e4 : 0 ≤ 2 * p.Rho * p.Hold := Int.mul_nonneg (by omega) (by omega); have e5 : 0 ≤ (p.D + 1) * I9 p := Int.mul_nonneg (by omega) h6.1; have es : sub p.Mu p.Rho = p.Mu - p.Rho := Mn (by omega) (by omega); have em : mul 3 (Ju p p.Hold p.D) = 3 * Ju p p.Hold p.D := K3 (by decide) (by omega) (by omega); unfold settle at hs ⊢; rw [es, em] at hs ⊢; rw [K3 (a := 2) (b := p.D) (by decide) (by omega) (by omega)] at hs ⊢; generalize hw : Ju p p.Hold p.D = w at *; generalize hq : (3 * w + (p.Mu - p.Rho) - 1) / (p.Mu - p.Rho) = q at *; have hq0 : 0 ≤ q := by rw [← hq]; exact Int.ediv_nonneg (by omega) (by omega)
 have hq1 : 3 * w ≤ q * (p.Mu - p.Rho) := by
  have h8 := Int.lt_ediv_add_one_mul_self (3 * w + (p.Mu - p.Rho) - 1) (show 0 < p.Mu - p.Rho by omega); rw [hq, Int.add_mul] at h8; omega
 have hq2 : q ≤ 1500000000000000000 := by
  have h9 : q * 1 ≤ q * (p.Mu - p.Rho) := Int.mul_le_mul_of_nonneg_left (by omega) hq0; have h10 : q * (p.Mu - p.Rho) ≤ 3 * w + (p.Mu - p.Rho) - 1 := by rw [← hq]; exact Int.ediv_mul_le _ (by omega)
  omega
 rw [Bg1 (by omega) (by decide) hq0 (by omega)] at hs ⊢; exact ⟨q, hq0, by omega, hq1, by omega⟩
theorem Hk {α β : Type} (P : β → Prop) (f : β → α → β) (l : List α) (b : β) (h0 : P b) (h : ∀ b x, x ∈ l → P b → P (f b x)) : P (l.foldl f b) := by
 induction l generalizing b with
 | nil => exact h0
 | cons x l ih => exact ih _ (h b x (.head _) h0) fun b y hy hb => h b y (.tail _ hy) hb
structure Fair (p : Par) (time : Int) (s : Stp) : Prop where
  ticks : ∀ t ∈ s.ticks, p.Beat - p.Rho ≤ t.2 ∧ t.2 ≤ p.Beat + p.Rho
  ages : ∀ a ∈ s.ages, p.Beat - p.Delay - p.Rho ≤ a.ticks ∧ a.ticks ≤ p.Beat - p.Delay + p.Jitter + p.Rho
  reads : ∀ r ∈ s.reads, r.is = true ∧ r.given = false ∧ r.gate < p.N - p.F ∧ time + p.Beat - p.Eps ≤ r.reading ∧ r.reading ≤ time + p.Beat + p.Eps
  all : ∀ i : Nat, (i : Int) < p.N - p.F → ∃ r ∈ s.reads, r.gate = (i : Int)
  lies : ∀ x ∈ s.lies, p.N - p.F ≤ x.from_
  plain : s.off = [] ∧ s.lost = [] ∧ s.cut = [] ∧ s.join = []
theorem A84 {c : Cs} (hok : c.p.Ok) (us : List Int) (who : Int) (s : Nat × List Ag) (j : Nat) (h : ∀ a ∈ s.2, c.p.Beat - c.p.Delay - c.p.Rho ≤ a.ticks ∧ a.ticks ≤ c.p.Beat - c.p.Delay + c.p.Jitter + c.p.Rho) :
  ∀ a ∈ (AGf c us who s j).2, c.p.Beat - c.p.Delay - c.p.Rho ≤ a.ticks ∧ a.ticks ≤ c.p.Beat - c.p.Delay + c.p.Jitter + c.p.Rho := by
 unfold AGf; refine Hk (fun z : Nat × List Ag => ∀ a ∈ z.2, c.p.Beat - c.p.Delay - c.p.Rho ≤ a.ticks ∧ a.ticks ≤ c.p.Beat - c.p.Delay + c.p.Jitter + c.p.Rho) _ _ _ h fun b x _ hb a ha => ?_; unfold A85 at ha; rcases List.mem_append.1 ha with ha | ha
 ·exact hb a ha
 ·rw [List.mem_singleton] at ha; subst ha; have := hok.Rho; have := hok.Jitter; have hz := Jq c b.1 (lo := -c.p.Rho) (hi := c.p.Jitter + c.p.Rho) (by omega); show _ ≤ Aux c b.1 ∧ Aux c b.1 ≤ _; unfold Aux; omega
theorem Bf3 {c : Cs} (hok : c.p.Ok) (us : List Int) (n k : Nat) : (∀ t ∈ (TKf c us n k).2.1, c.p.Beat - c.p.Rho ≤ t.2 ∧ t.2 ≤ c.p.Beat + c.p.Rho) ∧ ∀ a ∈ (TKf c us n k).2.2, c.p.Beat - c.p.Delay - c.p.Rho ≤ a.ticks ∧ a.ticks ≤ c.p.Beat - c.p.Delay + c.p.Jitter + c.p.Rho := by
 unfold TKf; refine Hk (fun z : Nat × List (Int × Int) × List Ag => (∀ t ∈ z.2.1, c.p.Beat - c.p.Rho ≤ t.2 ∧ t.2 ≤ c.p.Beat + c.p.Rho) ∧ ∀ a ∈ z.2.2, c.p.Beat - c.p.Delay - c.p.Rho ≤ a.ticks ∧ a.ticks ≤ c.p.Beat - c.p.Delay + c.p.Jitter + c.p.Rho) _ _ _ ⟨(fun t h => by cases h), (fun a h => by cases h)⟩ fun b x _ hb => ⟨fun t ht => ?_, ?_⟩
 ·unfold Zl at ht; rcases List.mem_append.1 ht with ht | ht
  ·exact hb.1 t ht
  ·rw [List.mem_singleton] at ht; subst ht; have := hok.Rho; have hz := Jq c b.1 (lo := -c.p.Rho) (hi := c.p.Rho) (by omega); show _ ≤ L6 c b.1 ∧ L6 c b.1 ≤ _; unfold L6; omega
 ·unfold Zl; exact A84 hok us x _ _ hb.2
theorem Be6 {c : Cs} (hok : c.p.Ok) (us : List Int) (time : Int) (n l k : Nat) :
    (∀ r ∈ (RLf c us time n l k).1.2, r.is = true ∧ r.given = false ∧ r.gate < c.p.N - c.p.F ∧ time + c.p.Beat - c.p.Eps ≤ r.reading ∧ r.reading ≤ time + c.p.Beat + c.p.Eps) ∧
    (∀ i : Nat, i < k → (i : Int) < c.p.N - c.p.F → ∃ r ∈ (RLf c us time n l k).1.2, r.gate = (i : Int)) ∧ ∀ x ∈ (RLf c us time n l k).2.2, c.p.N - c.p.F ≤ x.from_ := by
  induction k with
  | zero => exact ⟨(fun r h => by cases h), (fun i h => absurd h (Nat.not_lt_zero _)), (fun r h => by cases h)⟩
  | succ k ih =>
    obtain ⟨h1, h2, h3⟩ := ih; rw [Kl]; unfold rlS; split
    · rename_i hk; refine ⟨?_, ?_, h3⟩
      · intro r hr; unfold Y7 at hr; rcases List.mem_append.1 hr with hr | hr
        · exact h1 r hr
        · rw [List.mem_singleton] at hr; subst hr; have := hok.Eps; have hz := Jq c (RLf c us time n l k).1.1 (lo := -c.p.Eps) (hi := c.p.Eps) (by omega); refine ⟨rfl, rfl, hk, ?_⟩; show _ ≤ Ul c time (RLf c us time n l k).1.1 ∧ Ul c time (RLf c us time n l k).1.1 ≤ _; unfold Ul; omega
      · intro i hi hiN; unfold Y7; rcases (show i < k ∨ i = k by omega) with hi | rfl
        · obtain ⟨r, hr, e⟩ := h2 i hi hiN; exact ⟨r, List.mem_append.2 (.inl hr), e⟩
        · exact ⟨_, List.mem_append.2 (.inr (.head _)), rfl⟩
    · rename_i hk; refine ⟨h1, ?_, ?_⟩
      · intro i hi hiN; rcases (show i < k ∨ i = k by omega) with hi | rfl
        · exact h2 i hi hiN
        · exact absurd hiN hk
      · unfold LIf; refine Hk (fun z : Nat × List Li => ∀ x ∈ z.2, c.p.N - c.p.F ≤ x.from_) _ _ _ h3 fun b y _ hb x hx => ?_; unfold Apz at hx; split at hx
        · exact hb x hx
        · rcases List.mem_append.1 hx with hx | hx
          · exact hb x hx
          · rw [List.mem_singleton] at hx; subst hx; show _ ≤ (k : Int); omega
theorem StpOf.fair {c : Cs} (hok : c.p.Ok) {us : List Int} {time : Int} {n l : Nat} {s : Stp} (h : StpOf c us time n l s) : Fair c.p time s := by
 obtain ⟨h1, h2⟩ := Bf3 hok us n us.length
 obtain ⟨h3, h4, h5⟩ := Be6 hok us time (TKf c us n us.length).1 l c.p.N.toNat
 refine ⟨by rw [h.ticks]; exact h1, by rw [h.ages]; exact h2, by rw [h.reads]; exact h3, ?_, by rw [h.lies]; exact h5, h.off, h.lost, h.cut, h.join⟩; intro i hi; rw [h.reads]; have := hok.F; exact h4 i (by omega) hi
theorem Fair.tick {p : Par} (hp : p.Ok) {t : Int} {s : Stp} (h : Fair p t s) (who : Int) : p.Beat - p.Rho ≤ Fe p who s.ticks ∧ Fe p who s.ticks ≤ p.Beat + p.Rho := by
 unfold Fe; refine Hk (fun z : Int => p.Beat - p.Rho ≤ z ∧ z ≤ p.Beat + p.Rho) _ _ _ (by have := hp.Rho; omega) fun b x hx hb => ?_; split
 ·exact h.ticks x hx
 ·exact hb
theorem Fair.age {p : Par} (hp : p.Ok) {t : Int} {s : Stp} (h : Fair p t s) (who : Int) (f : Nat) : p.Beat - p.Delay - p.Rho ≤ Az p who s.ages f ∧ Az p who s.ages f ≤ p.Beat - p.Delay + p.Jitter + p.Rho := by
 unfold Az; refine Hk (fun z : Int => p.Beat - p.Delay - p.Rho ≤ z ∧ z ≤ p.Beat - p.Delay + p.Jitter + p.Rho) _ _ _ ?_ fun b x hx hb => ?_
 ·have := hp.Rho; have := hp.Jitter; have := hp.Beat; have := hp.Delay; rw [Mn (by omega) (by omega)]; omega
 ·split
  ·exact h.ages x hx
  ·exact hb
theorem Fair.read {p : Par} {t : Int} {s : Stp} (h : Fair p t s) (who : Int) (ticks : List (Int × Int)) :
    (Dx p who ticks s.reads).given = false ∧ ((Dx p who ticks s.reads).ref = true → who < p.N - p.F ∧ t + p.Beat - p.Eps ≤ (Dx p who ticks s.reads).reading ∧ (Dx p who ticks s.reads).reading ≤ t + p.Beat + p.Eps) ∧ (∀ r ∈ s.reads, r.gate = who → (Dx p who ticks s.reads).ref = true) := by
  have key : ∀ (l : List Rd), (∀ r ∈ l, r ∈ s.reads) → ∀ i : Inp, i.given = false → (i.ref = true → who < p.N - p.F ∧ t + p.Beat - p.Eps ≤ i.reading ∧ i.reading ≤ t + p.Beat + p.Eps) →
      (l.foldl (Cd who) i).given = false ∧ ((l.foldl (Cd who) i).ref = true → who < p.N - p.F ∧ t + p.Beat - p.Eps ≤ (l.foldl (Cd who) i).reading ∧ (l.foldl (Cd who) i).reading ≤ t + p.Beat + p.Eps) ∧ ((i.ref = true ∨ ∃ r ∈ l, r.gate = who) → (l.foldl (Cd who) i).ref = true) := by
    intro l
    induction l with
    | nil => intro _ i h1 h2; exact ⟨h1, h2, fun h => h.elim id fun ⟨r, hr, _⟩ => by cases hr⟩
    | cons r l ih =>
      intro hl i h1 h2; have hr := h.reads r (hl r (.head _))
      have e : Cd who i r = rs1 who i r := by
        unfold Cd rs2; rw [if_neg]; rw [hr.2.1]; exact fun hx => by cases hx.2
      rw [List.foldl_cons, e]
      have hstep : (rs1 who i r).given = false ∧ ((rs1 who i r).ref = true → who < p.N - p.F ∧ t + p.Beat - p.Eps ≤ (rs1 who i r).reading ∧ (rs1 who i r).reading ≤ t + p.Beat + p.Eps) ∧ ((i.ref = true ∨ r.gate = who) → (rs1 who i r).ref = true) := by
        unfold rs1; split
        · rename_i hc; refine ⟨h1, fun _ => ⟨by rw [← hc.1]; exact hr.2.2.1, hr.2.2.2⟩, fun _ => O⟩
        · rename_i hc; exact ⟨h1, h2, fun hx => hx.elim id fun hx => absurd ⟨hx, hr.1⟩ hc⟩
      obtain ⟨a, b, d⟩ := ih (fun x hx => hl x (.tail _ hx)) _ hstep.1 hstep.2.1; refine ⟨a, b, fun hx => d ?_⟩; rcases hx with hx | ⟨r', hr', e'⟩
      · exact .inl (hstep.2.2 (.inl hx))
      · rcases List.mem_cons.1 hr' with rfl | hr'
        · exact .inl (hstep.2.2 (.inr e'))
        · exact .inr ⟨r', hr', e'⟩
  obtain ⟨a, b, d⟩ := key s.reads (fun r hr => hr) (Tg (Fe p who ticks)) rfl (fun hx => by cases hx); exact ⟨a, b, fun r hr e => d (.inr ⟨r, hr, e⟩)⟩
theorem Fair.hon {p : Par} {t : Int} {s : Stp} (h : Fair p t s) {f : Int} (hf : 16 ≤ f ∨ f < p.N - p.F) : Hon s f := by
 rcases hf with hf | hf
 ·exact .inl hf
 ·exact .inr fun x hx e => by have := h.lies x hx; omega
theorem RunT.time {c : Cs} {nd b : Nat} {x : Wd} {n l : Nat} (h : RunT c nd b x n l) (hok : c.p.Ok) (ht : -1125899906842624 ≤ c.time ∧ c.time ≤ 1125899906842624) (hb : b ≤ 200) : x.time = c.time + b * c.p.Beat ∧ (0 : Int) ≤ b * c.p.Beat ∧ (b : Int) * c.p.Beat ≤ 219902325555200 := by
  have hB := hok.Beat
  have hbb : ∀ k : Nat, k ≤ 200 → (0 : Int) ≤ k * c.p.Beat ∧ (k : Int) * c.p.Beat ≤ 200 * 1099511627776 := fun k hk => ⟨Int.mul_nonneg (by omega) (by omega), Int.mul_le_mul (by omega) hB.2 (by omega) (by decide)⟩; refine ⟨?_, (hbb b hb).1, by have := (hbb b hb).2; omega⟩
  induction h with
  | start x G _ h _ => rw [h, Ay (by omega)]; simp
  | @step b x x' n l stp G G' h _ _ _ hs ih =>
    have h1 := ih (by omega); have h2 := hbb b (by omega); have h3 : ((b + 1 : Nat) : Int) * c.p.Beat = b * c.p.Beat + c.p.Beat := by push_cast; rw [Int.add_mul]; omega
    rw [hs.time, h1, Ho (by omega) (by omega)]; omega
end
section
open Tryz Go.RowKit YtaanjifekgfemaaGreat.K YtaanjifekgfemaaGreat.W YtaanjifekgfemaaGreat.LN YtaanjifekgfemaaGreat.CM
def A83 (qs : Qs) : Prop := ∀ f, f < 48 → (qs.getD f []).length ≤ 1
theorem Ar3 (who w : Int) (fr : ByteArray) (s : Stp) (links : List (Int × Int)) : (Nj who w fr s links).length ≤ 1 := by unfold Nj; split <;> simp
theorem Beats.thin {p : Par} {s : Stp} {ws : List Int} {links : List (Int × Int)} {us us' : List PU} {sd : List M} (h : Beats p s ws links us us' sd) (hws : us.map (fun u => u.who) = ws) {k : Nat} {u' : PU} (hk : us'[k]? = some u') : A83 u'.qs := by
 intro f hf; have hl := h.lane k u' hk f hf
 by_cases hw : (f : Int) ∈ ws
 ·obtain ⟨j, hj⟩ := List.getElem?_of_mem hw; have hj2 := hj; rw [← hws, List.getElem?_map] at hj2; obtain ⟨u, hu, e⟩ := Option.map_eq_some_iff.1 hj2; obtain ⟨_, m, _, h2, _⟩ := h.one j u hu; rw [hl.2 j m hj h2]; exact Ar3 _ _ _ _ _
 ·rw [hl.1 hw]; exact Nat.zero_le _
theorem Gk {qs : Qs} (h : A83 qs) (age : Nat → Int) (k : Nat) (hk : k ≤ 48) : (Bj qs age k).Pairwise fun a b => a.1.from_ ≠ b.1.from_ := by
  induction k with
  | zero => exact .nil
  | succ k ih =>
    rw [Im, List.pairwise_append]; refine ⟨ih (by omega), ?_, fun a ha b hb => ?_⟩
    · have h1 := Sh k (age k) (qs.getD k []); have h2 := h k (by omega); generalize Eh k (age k) (qs.getD k []) = l at h1
      match l, h1 with
      | [], _ => exact .nil
      | [a], _ => exact List.pairwise_singleton _ _
      | _ :: _ :: _, h => simp only [List.length_cons] at h; omega
    · obtain ⟨f, hf, ha⟩ := Mb ha; rw [(E7 ha).1, (E7 hb).1]; omega
def tkM (p : Par) (me : Int) (y : M × Int) : Prop := y.1.kind = 1 ∧ 0 ≤ y.1.from_ ∧ y.1.from_ < min p.N 16 ∧ y.1.from_ ≠ me
instance (p : Par) (me : Int) (y : M × Int) : Decidable (tkM p me y) := by unfold tkM; infer_instance
theorem Pj {p : Par} {me : Int} {l : List Hd} (h : l.Pairwise fun a b => a.m.from_ ≠ b.m.from_) : Al p me l = l.filter fun h => decide (tkM p me (ma h)) := by
  have key : ∀ (l pre : List Hd), (pre ++ l).Pairwise (fun a b => a.m.from_ ≠ b.m.from_) → ∀ out : List Hd, out.Sublist pre → l.foldl (Gy p me) out = out ++ l.filter fun h => decide (tkM p me (ma h)) := by
    intro l
    induction l with
    | nil => intro pre _ out _; simp
    | cons x l ih =>
      intro pre hp out ho; have hp2 : ((pre ++ [x]) ++ l).Pairwise (fun a b => a.m.from_ ≠ b.m.from_) := by simpa using hp
      have hx : ¬ ∃ y ∈ out, decide (y.m.from_ = x.m.from_) = true := by
        rintro ⟨y, hy, e⟩; have hy2 := ho.subset hy; rw [List.pairwise_append] at hp; exact hp.2.2 y hy2 x (.head _) (of_decide_eq_true e)
      rw [List.foldl_cons]
      by_cases ht : tkM p me (ma x)
      · have e1 : Gy p me out x = out ++ [x] := if_pos ⟨ht.1, ht.2.1, ht.2.2.1, ht.2.2.2, hx⟩; rw [e1, ih (pre ++ [x]) hp2 _ (List.Sublist.append ho (.refl _)), List.filter_cons, if_pos (decide_eq_true ht), List.append_assoc]; rfl
      · have e1 : Gy p me out x = out := if_neg fun h => ht ⟨h.1, h.2.1, h.2.2.1, h.2.2.2.1⟩; rw [e1, ih (pre ++ [x]) hp2 _ (ho.trans (List.sublist_append_left _ _)), List.filter_cons, if_neg (by simpa using ht)]
  exact key l [] (by simpa using h) [] (.refl _)
def Bf5 (p : Par) (y : M × Int) : Sp := way p ⟨y.1.elo, y.1.ehi⟩ y.2
def Bf6 (p : Par) (y : M × Int) : Sp := way p ⟨y.1.slo, y.1.shi⟩ y.2
def Il (y : M × Int) : Prop := y.1.good = true ∧ ¬ y.1.shi < y.1.slo
instance (y : M × Int) : Decidable (Il y) := by unfold Il; infer_instance
def Ai3 (p : Par) (me : Int) (l : List (M × Int)) : List (M × Int) := l.filter fun y => decide (tkM p me y ∧ y.1.ref = true)
def Ls (p : Par) (l : List (M × Int)) : List (M × Int) := l.filter fun y => decide (tkM p (-1) y ∧ Il y)
theorem At0 (p : Par) (acc : List Sp) (l : List Hd) : D5 p acc l = acc ++ (l.filter fun h => decide (h.m.ref = true)).map (Pk p) := by
  unfold D5
  induction l generalizing acc with
  | nil => simp
  | cons x l ih =>
    rw [List.foldl_cons, ih]
    by_cases h : x.m.ref = true
    · rw [if_pos h, List.filter_cons, if_pos (decide_eq_true h), List.append_assoc]; rfl
    · rw [if_neg h, List.filter_cons, if_neg (by simpa using h)]
theorem Jb {β : Type} (q : M × Int → Bool) (g : M × Int → β) (l : List Hd) : (l.filter fun h => q (ma h)).map (fun h => g (ma h)) = ((l.map ma).filter q).map g := by
 rw [List.filter_map, List.map_map]; rfl
theorem J1 {p : Par} {me : Int} {i : Inp} (h : (i.heard.map ma).Pairwise fun a b => a.1.from_ ≠ b.1.from_) : Ck p me i = Ca p i ++ (Ai3 p me (i.heard.map ma)).map (Bf5 p) := by
 rw [List.pairwise_map] at h; unfold Ck Ai3; rw [Pj (l := i.heard) h, At0, List.filter_filter]
 congr 1
 rw [← Jb (fun y => decide (tkM p me y ∧ y.1.ref = true)) (Bf5 p)]; show List.map (Pk p) _ = List.map (Pk p) _
 congr 1
 apply List.filter_congr; intro x _; rw [Bool.eq_iff_iff, Bool.and_eq_true, decide_eq_true_eq, decide_eq_true_eq, decide_eq_true_eq]; exact ⟨fun h => ⟨h.2, h.1⟩, fun h => ⟨h.2, h.1⟩⟩
theorem Pz {p : Par} {l : List Hd} (h : (l.map ma).Pairwise fun a b => a.1.from_ ≠ b.1.from_) : Gu p l = (Ls p (l.map ma)).map (Bf6 p) ∧ (G6 p l).map Cq = (Ls p (l.map ma)).map (fun y => y.1.held) := by
 rw [List.pairwise_map] at h
 have e : G6 p l = l.filter fun h => decide (tkM p (-1) (ma h) ∧ Il (ma h)) := by
  unfold G6 Bk; rw [Pj (l := l) h, List.filter_filter]; apply List.filter_congr
  intro x _; rw [Bool.eq_iff_iff, Bool.and_eq_true, decide_eq_true_eq, decide_eq_true_eq, decide_eq_true_eq]; exact ⟨fun h => ⟨h.2, h.1⟩, fun h => ⟨h.2, h.1⟩⟩
 unfold Gu Ls; rw [e]; exact ⟨Jb (fun y => decide (tkM p (-1) y ∧ Il y)) (Bf6 p) l, Jb (fun y => decide (tkM p (-1) y ∧ Il y)) (fun y => y.1.held) l⟩
theorem mixed {D : Nat → List Sp} {P : Sp → Bool} {N R : Nat} {me : Int} (hRN : R ≤ N) (h1 : ∀ k, k < R → (k : Int) ≠ me → ∃ y, D k = [y] ∧ P y = true) (h2 : ∀ k, k < R → (k : Int) = me → D k = []) (h3 : ∀ k, R ≤ k → k < N → (D k).length ≤ 1) (h4 : ∀ k, N ≤ k → k < 48 → D k = []) (k : Nat) (hk : k ≤ 48) :
    ((List.range k).flatMap D).countP (fun s => !P s) ≤ min k N - R ∧ (min k R : Int) ≤ ((List.range k).flatMap D).length + (if 0 ≤ me ∧ me < min k R then 1 else 0) := by
  induction k with
  | zero =>
    refine ⟨by simp, ?_⟩; simp only [List.range_zero, List.flatMap_nil, List.length_nil]; split <;> omega
  | succ k ih =>
    obtain ⟨i1, i2⟩ := ih (by omega); rw [List.range_succ, List.flatMap_append, List.countP_append, List.length_append]; have e : [k].flatMap D = D k := by simp
    rw [e]
    by_cases hR : k < R
    · by_cases hme : (k : Int) = me
      · rw [h2 k hR hme]; simp only [List.countP_nil, List.length_nil]; refine ⟨by omega, ?_⟩; split at i2 <;> split <;> omega
      · obtain ⟨y, hy, hp⟩ := h1 k hR hme; rw [hy]; simp only [List.countP_cons, List.countP_nil, List.length_cons, List.length_nil, hp]; refine ⟨by simp; omega, ?_⟩; split at i2 <;> split <;> omega
    · by_cases hN : k < N
      · have h := h3 k (by omega) hN; have hc : (D k).countP (fun s => !P s) ≤ (D k).length := List.countP_le_length; refine ⟨by omega, ?_⟩; split at i2 <;> split <;> omega
      · rw [h4 k (by omega) (by omega)]; simp only [List.countP_nil, List.length_nil]; refine ⟨by omega, ?_⟩; split at i2 <;> split <;> omega
theorem S0 {p : Par} (hp : p.Ok) {s : Sp} {t g age : Int} (hg : 0 ≤ g ∧ g ≤ 100000000000000000) (ht : -4503599627370496 ≤ t ∧ t ≤ 4503599627370496) (hs : Bh s t g) (ha : p.Beat - p.Delay - p.Rho ≤ age ∧ age ≤ p.Beat - p.Delay + p.Jitter + p.Rho) : Bh (way p s age) (t + p.Beat) (g + I9 p) := by
 have h1 := hp.Beat; have h2 := hp.Rho; have h3 := hp.Delay; have h4 := hp.Jitter; obtain ⟨⟨a1, a2⟩, a3, a4⟩ := hs; have e1 : sub p.Delay p.Jitter = p.Delay - p.Jitter := Mn (by omega) (by omega); have e2 : neg p.Rho = -p.Rho := by unfold neg; rw [Ay (by omega)]
 have e3 : Bb [sub p.Delay p.Jitter, age, neg p.Rho] = p.Delay - p.Jitter + age - p.Rho := by
  rw [e1, e2]; show Ak (Ak (Ak (0 + Ak (p.Delay - p.Jitter)) + Ak age) + Ak (-p.Rho)) = _; rw [Ay (x := p.Delay - p.Jitter) (by omega), Int.zero_add, Ay (x := p.Delay - p.Jitter) (by omega), Ay (x := age) (by omega), Ay (x := p.Delay - p.Jitter + age) (by omega), Ay (x := -p.Rho) (by omega), Ay (by omega)]; omega
 have e4 : Bb [p.Delay, age, p.Rho] = p.Delay + age + p.Rho := by
  show Ak (Ak (Ak (0 + Ak p.Delay) + Ak age) + Ak p.Rho) = _; rw [Ay (x := p.Delay) (by omega), Int.zero_add, Ay (x := p.Delay) (by omega), Ay (x := age) (by omega), Ay (x := p.Delay + age) (by omega), Ay (x := p.Rho) (by omega), Ay (by omega)]
 unfold way Sp.shift Bh; dsimp only; rw [e3, e4, Ho (by omega) (by omega), Ho (by omega) (by omega)]; unfold I9; omega
end
section
open Tryz Go.RowKit YtaanjifekgfemaaGreat.K YtaanjifekgfemaaGreat.W YtaanjifekgfemaaGreat.LN
theorem Hm {ws : List Int} {l : List (Int × Int)} {y x : Int × Int} (h : x ∈ l) : x ∈ Eg ws l y := by
 unfold Eg; split
 ·exact List.mem_append.2 (.inl h)
 ·exact h
theorem Ua {ws : List Int} (l : List (Int × Int)) {y : Int × Int} (h : y.1 ≠ y.2) (h1 : y.1 ∈ ws) (h2 : y.2 ∈ ws) : y ∈ Eg ws l y := by
 unfold Eg
 by_cases hy : y ∈ l
 ·rw [if_neg (fun h => h.2.2.2 hy)]; exact hy
 ·rw [if_pos ⟨h, h1, h2, hy⟩]; exact List.mem_append.2 (.inr (.head _))
theorem Iq {ws : List Int} {l : List (Int × Int)} (h : l.Nodup) (y : Int × Int) : (Eg ws l y).Nodup := by
 unfold Eg; split
 ·rename_i hc; rw [List.nodup_append]; exact ⟨h, by simp, fun a ha b hb => by rw [List.mem_singleton] at hb; subst hb; intro e; subst e; exact hc.2.2.2 ha⟩
 ·exact h
theorem Xg {ws : List Int} {l : List (Int × Int)} (h : l.Nodup) (y : Int × Int) : (C3 (Eg ws) l y).Nodup := by
 unfold C3; split
 ·exact Iq (Iq h _) _
 ·exact h
theorem J0 {α : Type} (f : List (Int × Int) → α → List (Int × Int)) (hf : ∀ l x, l.Nodup → (f l x).Nodup) (xs : List α) (l : List (Int × Int)) (h : l.Nodup) : (xs.foldl f l).Nodup := by
 induction xs generalizing l with
 | nil => exact h
 | cons x xs ih => exact ih _ (hf l x h)
theorem Az8 (ws : List Int) (i : Nat) (l : List (Int × Int)) (n : Nat) (h : l.Nodup) : (jkW ws i l n).Nodup := J0 _ (fun l k h => Iq h _) _ _ h
theorem Az7 (ws : List Int) (i : Nat) (l : List (Int × Int)) (cs : List Int) (h : l.Nodup) : (jcW ws i l cs).Nodup := J0 _ (fun l k h => by split; exact Iq h _; exact h) _ _ h
theorem Aq2 (c : Cs) (nd : Nat) : (Ft c nd).Nodup := by
 unfold Ft lnk; refine J0 _ (fun l y h => Xg h y) _ _ ?_; unfold jiW; exact J0 _ (fun l i h => Az7 _ _ _ _ (Az8 _ _ _ _ h)) _ _ List.nodup_nil
theorem Ks {α : Type} {f : List (Int × Int) → α → List (Int × Int)} (hf : ∀ l x y, y ∈ l → y ∈ f l x) (xs : List α) {l : List (Int × Int)} {y : Int × Int} (h : y ∈ l) : y ∈ xs.foldl f l := by
 induction xs generalizing l with
 | nil => exact h
 | cons x xs ih => exact ih (hf l x y h)
theorem P5 {α : Type} {f : List (Int × Int) → α → List (Int × Int)} (hf : ∀ l x y, y ∈ l → y ∈ f l x) {xs : List α} {x : α} (hx : x ∈ xs) {y : Int × Int} (h : ∀ l, y ∈ f l x) (l : List (Int × Int)) : y ∈ xs.foldl f l := by
  induction xs generalizing l with
  | nil => cases hx
  | cons z xs ih =>
    rcases List.mem_cons.1 hx with rfl | hx
    · exact Ks hf xs (h l)
    · exact ih hx _
theorem Bb9 {α : Type} {f : List (Int × Int) → α → List (Int × Int)} {P : Int × Int → Prop} (hf : ∀ l x y, x = x → y ∈ f l x → y ∈ l ∨ P y) (xs : List α) {l : List (Int × Int)} {y : Int × Int} (h : y ∈ xs.foldl f l) : y ∈ l ∨ P y := by
  induction xs generalizing l with
  | nil => exact .inl h
  | cons x xs ih =>
    rcases ih h with h | h
    · exact hf l x y rfl h
    · exact .inr h
theorem Tu {ws : List Int} {l : List (Int × Int)} {y x : Int × Int} (h : x ∈ l) : x ∈ C3 (Eg ws) l y := by
 unfold C3; split
 ·exact Hm (Hm h)
 ·exact h
theorem Az9 {ws : List Int} {i : Nat} {l : List (Int × Int)} {n : Nat} {y : Int × Int} (h : y ∈ l) : y ∈ jkW ws i l n := Ks (fun l k y h => Hm h) _ h
theorem Ac9 {ws : List Int} {i : Nat} {l : List (Int × Int)} {cs : List Int} {y : Int × Int} (h : y ∈ l) : y ∈ jcW ws i l cs := Ks (fun l k y h => by split; exact Hm h; exact h) _ h
theorem Bd0 {c : Cs} {nd : Nat} (hok : c.p.Ok) {i k : Nat} (hi : i < c.p.N.toNat) (hk : k < c.p.N.toNat) (hne : i ≠ k) : ((i : Int), (k : Int)) ∈ Ft c nd := by
 unfold Ft lnk; refine Ks (fun l x y h => Tu h) _ ?_; unfold jiW; refine P5 (fun l x y h => Ac9 (Az9 h)) (List.mem_range.2 hi) (fun l => Ac9 ?_) _; unfold jkW; refine P5 (f := fun l (k : Nat) => Eg (Ai c.p.N.toNat nd) l ((i : Int), (k : Int))) (fun l x y h => Hm h) (List.mem_range.2 hk) (fun l => Ua l (by show (i : Int) ≠ (k : Int); omega) (Ev.2 (.inl (by show 0 ≤ (i : Int) ∧ (i : Int) < _; omega))) (Ev.2 (.inl (by show 0 ≤ (k : Int) ∧ (k : Int) < _; omega)))) _
theorem Bcz {c : Cs} {nd : Nat} (hok : c.p.Ok) (hnd : nd ≤ 32) {i v : Nat} (hi : i < c.p.N.toNat) (hv : v < nd) (hc : (v : Int) ∈ c.core) : ((i : Int), 16 + (v : Int)) ∈ Ft c nd := by
 unfold Ft lnk; refine Ks (fun l x y h => Tu h) _ ?_; unfold jiW; refine P5 (fun l x y h => Ac9 (Az9 h)) (List.mem_range.2 hi) (fun l => ?_) _; unfold jcW; have hN := hok.N; refine P5 (fun l x y h => by split; exact Hm h; exact h) hc (fun l => ?_) _; rw [if_pos (by omega)]; exact Ua l (by show (i : Int) ≠ 16 + (v : Int); omega) (Ev.2 (.inl (by show 0 ≤ (i : Int) ∧ (i : Int) < _; omega))) (Ev.2 (.inr (by show 16 ≤ 16 + (v : Int) ∧ 16 + (v : Int) < _; omega)))
def O1 (c : Cs) (nd : Nat) (y : Int × Int) : Prop := y.1 ≠ y.2 ∧ y.1 ∈ Ai c.p.N.toNat nd ∧ y.2 ∈ Ai c.p.N.toNat nd ∧ (y.1 < 16 → 16 ≤ y.2 → y.2 - 16 ∈ c.core)
theorem Aj3 {c : Cs} {nd : Nat} (hok : c.p.Ok) {y : Int × Int} (h : y ∈ Ft c nd) : O1 c nd y := by
  have hN := hok.N
  have hj : ∀ (l : List (Int × Int)) (z y : Int × Int), y ∈ Eg (Ai c.p.N.toNat nd) l z → (z.1 < 16 → 16 ≤ z.2 → z.2 - 16 ∈ c.core) → y ∈ l ∨ O1 c nd y := by
    intro l z y hy hz; unfold Eg at hy; split at hy
    · rename_i hc; rcases List.mem_append.1 hy with hy | hy
      · exact .inl hy
      · rw [List.mem_singleton] at hy; subst hy; exact .inr ⟨hc.1, hc.2.1, hc.2.2.1, hz⟩
    · exact .inl hy
  unfold Ft lnk at h
  have h2 : y ∈ jiW (Ai c.p.N.toNat nd) c.p.N.toNat c.core c.p.N.toNat ∨ O1 c nd y := by
    refine Bb9 (P := O1 c nd) (fun l x y _ hy => ?_) _ h; unfold C3 at hy; split at hy
    · rename_i hb; unfold inB at hb; rcases hj _ _ _ hy (fun h1 _ => by dsimp only at h1; omega) with hy | hy
      · exact hj _ _ _ hy (fun h1 _ => by dsimp only at h1; omega)
      · exact .inr hy
    · exact .inl hy
  refine h2.elim (fun h => ?_) id; unfold jiW at h
  have key : y ∈ ([] : List (Int × Int)) ∨ O1 c nd y := by
    have hfold : ∀ (js : List Nat), (∀ j ∈ js, j < c.p.N.toNat) → ∀ l : List (Int × Int), y ∈ js.foldl (fun l (i : Nat) => jcW (Ai c.p.N.toNat nd) i (jkW (Ai c.p.N.toNat nd) i l c.p.N.toNat) c.core) l → y ∈ l ∨ O1 c nd y := by
      intro js
      induction js with
      | nil => intro _ l h; exact .inl h
      | cons j js ih =>
        intro hjs l h; rcases ih (fun x hx => hjs x (.tail _ hx)) _ h with h | h
        · have hc : ∀ (cs : List Int), (∀ x ∈ cs, x ∈ c.core) → ∀ l : List (Int × Int), y ∈ jcW (Ai c.p.N.toNat nd) j l cs → y ∈ l ∨ O1 c nd y := by
            intro cs; unfold jcW
            induction cs with
            | nil => intro _ l h; exact .inl h
            | cons v cs ih2 =>
              intro hcs l h; rcases ih2 (fun x hx => hcs x (.tail _ hx)) _ h with h | h
              · dsimp only at h; split at h
                · exact hj _ _ _ h (fun _ _ => by show 16 + v - 16 ∈ c.core; rw [show 16 + v - 16 = v by omega]; exact hcs v (.head _))
                · exact .inl h
              · exact .inr h
          rcases hc c.core (fun _ h => h) _ h with h | h
          · have hk : ∀ (ks : List Nat), (∀ k ∈ ks, k < c.p.N.toNat) → ∀ l : List (Int × Int), y ∈ ks.foldl (fun l (k : Nat) => Eg (Ai c.p.N.toNat nd) l ((j : Int), (k : Int))) l → y ∈ l ∨ O1 c nd y := by
              intro ks
              induction ks with
              | nil => intro _ l h; exact .inl h
              | cons k ks ih3 =>
                intro hks l h; rcases ih3 (fun x hx => hks x (.tail _ hx)) _ h with h | h
                · exact hj _ _ _ h (fun _ h2 => by have := hks k (.head _); dsimp only at h2; omega)
                · exact .inr h
            exact hk _ (fun k hk => List.mem_range.1 hk) l h
          · exact .inr h
        · exact .inr h
    exact hfold _ (fun j hj => List.mem_range.1 hj) [] h
  exact key.resolve_left (fun h => by cases h)
end
section
open Tryz Go.RowKit YtaanjifekgfemaaGreat.K YtaanjifekgfemaaGreat.W YtaanjifekgfemaaGreat.LN YtaanjifekgfemaaGreat.CM
def TB (t : Int) : Prop := -2251799813685248 ≤ t ∧ t ≤ 2251799813685248
def Z4 (p : Par) (us : List PU) : Prop := ∀ u ∈ us, u.s.Fit p ∧ NearFit u.es
inductive Hist (c : Cs) (nd : Nat) : Nat → List PU → List M → Stp → Int → Prop
  | one {us0 us : List PU} {sd : List M} {s : Stp} {t : Int} : us0.map (fun u => u.who) = Ai c.p.N.toNat nd → Z4 c.p us0 → Beats c.p s (Ai c.p.N.toNat nd) (Ft c nd) us0 us sd → Fair c.p t s → TB t → Hist c nd 1 us sd s (t + c.p.Beat)
  | next {b : Nat} {us0 us : List PU} {sd0 sd : List M} {s0 s : Stp} {t : Int} : Hist c nd b us0 sd0 s0 t → Z4 c.p us0 → Beats c.p s (Ai c.p.N.toNat nd) (Ft c nd) us0 us sd → Fair c.p t s → TB t → Hist c nd (b + 1) us sd s (t + c.p.Beat)
theorem B8 {p : Par} {s : Stp} {ws : List Int} {links : List (Int × Int)} {us us' : List PU} {sd : List M} (h : Beats p s ws links us us' sd) (hws : us.map (fun u => u.who) = ws) : us'.map (fun u => u.who) = ws := by
  subst hws; apply List.ext_getElem?
  intro k; rw [List.getElem?_map, List.getElem?_map]
  cases hu : us[k]? with
  | none =>
    have : us'[k]? = none := by rw [List.getElem?_eq_none_iff] at hu ⊢; have := h.len; omega
    rw [this]
  | some u =>
    obtain ⟨u', m, h1, _, h3, _⟩ := h.one k u hu; rw [h1]; exact congrArg some h3.who
theorem Hist.whos {c : Cs} {nd b : Nat} {us : List PU} {sd : List M} {s : Stp} {t : Int} (h : Hist c nd b us sd s t) : us.map (fun u => u.who) = Ai c.p.N.toNat nd := by
 induction h with
 | one h1 _ h2 _ _ => exact B8 h2 h1
 | next _ _ h2 _ _ ih => exact B8 h2 ih
theorem Yz {x : Wd} {p : Par} {nd : Nat} {G : List Res} (h : x.Ok p nd G) : Z4 p (puL x.ms) := by
 intro u hu; unfold puL at hu; obtain ⟨m, hm, rfl⟩ := List.mem_map.1 hu; exact ⟨(h.ms m hm).fit, (h.ms m hm).near⟩
theorem Y0 {x : Wd} {p : Par} {nd : Nat} {G : List Res} (h : x.Ok p nd G) : (puL x.ms).map (fun u => u.who) = Ai p.N.toNat nd := by
 rw [← h.who]; unfold puL E8; rw [List.map_map]; rfl
theorem RunT.tb {c : Cs} {nd b : Nat} {x : Wd} {n l : Nat} (h : RunT c nd b x n l) (hok : c.p.Ok) (ht : -1125899906842624 ≤ c.time ∧ c.time ≤ 1125899906842624) (hb : b ≤ 200) : TB x.time := by
 obtain ⟨h1, h2, h3⟩ := h.time hok ht hb; unfold TB; omega
theorem Sv {c : Cs} {nd b : Nat} {x x' : Wd} {n l : Nat} {stp : Stp} {G G' : List Res} (hok : c.p.Ok) (hnd : nd ≤ 32) (h : RunT c nd b x n l) (hx : x.Ok c.p nd G) (hx' : x'.Ok c.p nd G') (ho : StpOf c (Ai c.p.N.toNat nd) x.time n l stp) (hs : StepW c.p stp G G' x x') :
  ∃ sd, Beats c.p stp (Ai c.p.N.toNat nd) (Ft c nd) (puL x.ms) (puL x'.ms) sd := by
 have hl : x'.links = Ft c nd := (hs.links_id ho.cut ho.join).trans h.links; obtain ⟨sd, hb⟩ := hs.beats hok hnd hx ho.off ho.lost (by rw [hl]; exact Aq2 c nd) hx'.links; rw [hl] at hb; exact ⟨sd, hb⟩
theorem Uw {c : Cs} {x x' : Wd} {stp : Stp} {G G' : List Res} (hok : c.p.Ok) (ht : TB x.time) (hs : StepW c.p stp G G' x x') : x'.time = x.time + c.p.Beat := by
 have := hok.Beat
 unfold TB at ht; rw [hs.time, Ho (by omega) (by omega)]
theorem Nn (p : Par) (s : Stt) (ticks : Int) (nx : Stt) : (B1 p s ticks nx).lo = (Bf p nx).lo ∧ (B1 p s ticks nx).hi = (Bf p nx).hi ∧ (B1 p s ticks nx).held = (Bf p nx).held ∧ (B1 p s ticks nx).hops = (Bf p nx).hops ∧ (B1 p s ticks nx).good = (Bf p nx).good ∧ (B1 p s ticks nx).time = I1 p s ticks nx ∧ (B1 p s ticks nx).set = true := by
 unfold B1; split <;> exact ⟨rfl, rfl, rfl, rfl, rfl, rfl, rfl⟩
def Qj (p : Par) (s : Stt) : Prop := -2305843009213693952 ≤ s.lo ∧ s.lo ≤ s.hi ∧ s.hi ≤ 2305843009213693952 ∧ (0 ≤ s.held ∧ s.held ≤ 1073741824) ∧ 0 ≤ s.hops ∧ s.hops ≤ p.D + 1
theorem K5 {p : Par} (hp : p.Ok) {s : Stt} (h : Qj p s) : (Bf p s).lo = s.lo ∧ (Bf p s).hi = s.hi ∧ (Bf p s).held = s.held ∧ (Bf p s).hops = s.hops ∧ (Bf p s).good = s.good := by
 obtain ⟨h1, h2, h3, h4, h5, h6⟩ := h; have hD := hp.D; have e1 : Ak s.lo = s.lo := Ay (by omega); have e2 : Ak s.hi = s.hi := Ay (by omega); have e3 : Bb [p.D, 1] = p.D + 1 := Tn (by omega) (by decide) (by omega); unfold Bf; dsimp only; rw [e1, e2, e3, if_neg (by omega), if_neg (by omega), if_neg (by omega)]; exact ⟨rfl, rfl, Mv h4, Mv ⟨h5, h6⟩, rfl⟩
theorem L5 (s : Stt) : (Bm s).lo = s.lo ∧ (Bm s).hi = s.hi ∧ (Bm s).held = s.held ∧ (Bm s).hops = s.hops ∧ (Bm s).good = s.good ∧ (Bm s).time = s.time ∧ (Bm s).set = s.set := ⟨rfl, rfl, rfl, rfl, rfl, rfl, rfl⟩
theorem Ri (p : Par) (s : Stt) (l : List Hd) : (Ce p s l).lo = s.lo ∧ (Ce p s l).hi = s.hi ∧ (Ce p s l).held = s.held ∧ (Ce p s l).hops = s.hops ∧ (Ce p s l).good = s.good ∧ (Ce p s l).time = s.time ∧ (Ce p s l).set = s.set := by
 unfold Ce; refine Hk (fun z : Stt => z.lo = s.lo ∧ z.hi = s.hi ∧ z.held = s.held ∧ z.hops = s.hops ∧ z.good = s.good ∧ z.time = s.time ∧ z.set = s.set) _ _ _ ⟨rfl, rfl, rfl, rfl, rfl, rfl, rfl⟩ fun b x _ hb => ?_; unfold Jj; split
 ·exact hb
 ·exact hb
structure Says (u : PU) (m : M) : Prop where
  from_ : m.from_ = u.who
  slo : m.slo = u.s.lo
  shi : m.shi = u.s.hi
  held : m.held = u.s.held
  hops : m.hops = u.s.hops
  good : m.good = u.s.good
theorem One.says {p : Par} {s : Stp} {u u' : PU} {m : M} (h : One p s u u' m) : Says u' m ∧ (u.who < 16 → m.kind = 1) ∧ (¬ u.who < 16 → m.kind = 2) := by
 obtain ⟨i, _, hb⟩ := h.inp; rcases hb with ⟨h1, h2, _, rfl⟩ | ⟨h1, clock, tab, _, h2, _, rfl⟩
 ·refine ⟨⟨h.who.symm, ?_, ?_, ?_, ?_, ?_⟩, fun _ => rfl, fun h => absurd h1 h⟩ <;> rw [h2] <;> rfl
 ·refine ⟨⟨h.who.symm, ?_, ?_, ?_, ?_, ?_⟩, fun h => absurd h h1, fun _ => rfl⟩ <;> rw [h2] <;> rfl
theorem One.refs {p : Par} (hp : p.Ok) {s : Stp} {u u' : PU} {m : M} (h : One p s u u' m) (hw : 0 ≤ u.who ∧ u.who < 16) {t : Int} (ht : TB t) (hf : Fair p t s) :
  (u.who < p.N - p.F → m.ref = true ∧ Bh ⟨m.elo, m.ehi⟩ (t + p.Beat) (2 * p.Eps)) ∧ (¬ u.who < p.N - p.F → m.ref = false) := by
 have hE := hp.Eps; have hB := hp.Beat
 unfold TB at ht; obtain ⟨i, hi, hb⟩ := h.inp; rcases hb with ⟨h1, h2, _, rfl⟩ | ⟨h1, _⟩
 ·obtain ⟨r1, r2, r3⟩ := hf.read u.who s.ticks; rw [← hi.ref, ← hi.reading] at r2; refine ⟨fun hr => ?_, fun hr => ?_⟩
  ·obtain ⟨r, hr1, hr2⟩ := hf.all u.who.toNat (by omega); have href : i.ref = true := by rw [hi.ref]; exact r3 r hr1 (by omega)
   obtain ⟨_, q1, q2⟩ := r2 href; have hso : Cj p i.reading := by unfold Cj; omega
   have hro : Fd p i := ⟨hso, href⟩
   have es : Ex p i = ⟨i.reading - p.Eps, i.reading + p.Eps⟩ := by
    unfold Ex Aw; rw [if_pos hro, if_pos hso, Mn (by omega) (by omega), Ho (by omega) (by omega)]
   refine ⟨decide_eq_true hro, ?_⟩; show Bh ⟨(Ex p i).lo, (Ex p i).hi⟩ _ _; rw [es]; unfold Bh; dsimp only; omega
  ·have href : ¬ i.ref = true := fun hx => hr (r2 hx).1; exact decide_eq_false fun hx => href hx.2
 ·exact absurd hw.2 h1
theorem Asz {p : Par} (hp : p.Ok) {s : Stp} {who : Int} {qs : Qs} {i : Inp} (hi : InpOf p s who qs i) (hw : 0 ≤ who ∧ who < 16) {t : Int} (ht : TB t) (hf : Fair p t s) :
  (who < p.N - p.F → ∃ y, Ca p i = [y] ∧ Bh y (t + p.Beat) (2 * p.Eps)) ∧ (¬ who < p.N - p.F → Ca p i = []) := by
 have hE := hp.Eps; have hB := hp.Beat
 unfold TB at ht; obtain ⟨r1, r2, r3⟩ := hf.read who s.ticks; rw [← hi.ref, ← hi.reading] at r2; refine ⟨fun hr => ?_, fun hr => ?_⟩
 ·obtain ⟨r, hr1, hr2⟩ := hf.all who.toNat (by omega); have href : i.ref = true := by rw [hi.ref]; exact r3 r hr1 (by omega)
  obtain ⟨_, q1, q2⟩ := r2 href; have hso : Cj p i.reading := by unfold Cj; omega
  have hro : Fd p i := ⟨hso, href⟩; refine ⟨Aw p i.reading, if_pos hro, ?_⟩; unfold Aw; rw [if_pos hso, Mn (by omega) (by omega), Ho (by omega) (by omega)]; unfold Bh; dsimp only; omega
 ·exact if_neg fun hx => hr (r2 hx.2).1
theorem Hist.last {c : Cs} {nd b : Nat} {us : List PU} {sd : List M} {s : Stp} {t : Int} (h : Hist c nd b us sd s t) : ∃ us0 t0, us0.map (fun u => u.who) = Ai c.p.N.toNat nd ∧ Z4 c.p us0 ∧ Beats c.p s (Ai c.p.N.toNat nd) (Ft c nd) us0 us sd ∧ Fair c.p t0 s ∧ TB t0 ∧ t = t0 + c.p.Beat := by
 cases h with
 | one h1 h2 h3 h4 h5 => exact ⟨_, _, h1, h2, h3, h4, h5, rfl⟩
 | next h1 h2 h3 h4 h5 => exact ⟨_, _, h1.whos, h2, h3, h4, h5, rfl⟩
theorem Dc {us : List PU} {ws : List Int} (h : us.map (fun u => u.who) = ws) {k : Nat} {u : PU} (hk : us[k]? = some u) : ws[k]? = some u.who := by rw [← h, List.getElem?_map, hk]; rfl
theorem D7 {us : List PU} {ws : List Int} (h : us.map (fun u => u.who) = ws) {k : Nat} {w : Int} (hk : ws[k]? = some w) : ∃ u, us[k]? = some u ∧ u.who = w := by
 rw [← h, List.getElem?_map] at hk; exact Option.map_eq_some_iff.1 hk
def Lw (q : M × Int → Bool) (g : M × Int → Sp) (qs : Qs) (age : Nat → Int) (f : Nat) : List Sp := ((Eh f (age f) (qs.getD f [])).filter q).map g
theorem Yf (q : M × Int → Bool) (g : M × Int → Sp) (qs : Qs) (age : Nat → Int) : ((Bj qs age 48).filter q).map g = (List.range 48).flatMap (Lw q g qs age) := by
 unfold Bj Lw; rw [List.filter_flatMap, List.map_flatMap]
theorem Ye {qs : Qs} (h : A83 qs) (q : M × Int → Bool) (g : M × Int → Sp) (age : Nat → Int) {f : Nat} (hf : f < 48) : (Lw q g qs age f).length ≤ 1 := by
 unfold Lw; rw [List.length_map]; exact Nat.le_trans (List.length_filter_le _ _) (Nat.le_trans (Sh _ _ _) (h f hf))
theorem Of {qs : Qs} {q : M × Int → Bool} {g : M × Int → Sp} {age : Nat → Int} {f : Nat} (h : ∀ y ∈ Eh f (age f) (qs.getD f []), q y = false) : Lw q g qs age f = [] := by
 unfold Lw; rw [List.filter_eq_nil_iff.2 (fun y hy => by rw [h y hy]; decide)]; rfl
theorem Uc {qs : Qs} {q : M × Int → Bool} {g : M × Int → Sp} {age : Nat → Int} {f : Nat} {y : M × Int} (h : Eh f (age f) (qs.getD f []) = [y]) (hq : q y = true) : Lw q g qs age f = [g y] := by
 unfold Lw; rw [h, List.filter_cons, if_pos hq]; rfl
theorem Rv {p : Par} (hp : p.Ok) {me : Int} {qs : Qs} (hth : A83 qs) (own : List Sp) {age : Nat → Int} {q : M × Int → Bool} {g : M × Int → Sp} {t r : Int} (hr : 0 ≤ r ∧ r ≤ 100000000000000000) (ht : -4503599627370496 ≤ t ∧ t ≤ 4503599627370496)
  (h1 : ∀ k : Nat, (k : Int) < p.N - p.F → (k : Int) ≠ me → ∃ y, Eh k (age k) (qs.getD k []) = [y] ∧ q y = true ∧ Bh (g y) t r)
  (h2 : ∀ y : M × Int, q y = true → 0 ≤ y.1.from_ ∧ y.1.from_ < p.N ∧ y.1.from_ ≠ me) (h3 : ((0 ≤ me ∧ me < p.N - p.F) → ∃ y, own = [y] ∧ Bh y t r) ∧ (¬ (0 ≤ me ∧ me < p.N - p.F) → own = [])) :
  Fc p.F (own ++ ((Bj qs age 48).filter q).map g) ∧ Bh (Db p.F (own ++ ((Bj qs age 48).filter q).map g)) t r := by
 have hN := hp.N; have hF := hp.F; rw [Yf]
 have hm := mixed (D := Lw q g qs age) (P := fun s => decide (Bh s t r)) (N := p.N.toNat) (R := (p.N - p.F).toNat) (me := me) (by omega) (fun k hk hne => by
   obtain ⟨y, hy, hq, hy2⟩ := h1 k (by omega) hne
   exact ⟨g y, Uc hy hq, decide_eq_true hy2⟩)
  (fun k hk he => Of fun y hy => by
   refine Bool.eq_false_iff.2 fun hq => ?_; have h4 := (E7 hy).1
   exact (h2 y hq).2.2 (by omega))
  (fun k hk hk2 => Ye hth q g age (by omega)) (fun k hk hk2 => Of fun y hy => by
   refine Bool.eq_false_iff.2 fun hq => ?_; have h4 := (E7 hy).1; have := (h2 y hq).2.1
   omega) 48 (Nat.le_refl _)
 obtain ⟨hb, hl⟩ := hm; refine Ao2 hF.1 ?_ ?_ hr.1 (by omega)
 ·rw [List.length_append]
  by_cases hc : 0 ≤ me ∧ me < p.N - p.F
  ·obtain ⟨y, hy, _⟩ := h3.1 hc; rw [hy]; simp only [List.length_cons, List.length_nil]; split at hl <;> omega
  ·rw [h3.2 hc]; simp only [List.length_nil]; split at hl
   ·rename_i hx; exact absurd ⟨hx.1, by omega⟩ hc
   ·omega
 ·rw [List.countP_append]
  have ho : own.countP (fun s => !decide (Bh s t r)) = 0 := by
   by_cases hc : 0 ≤ me ∧ me < p.N - p.F
   ·obtain ⟨y, hy, hy2⟩ := h3.1 hc; rw [hy, List.countP_cons, List.countP_nil, decide_eq_true hy2]; rfl
   ·rw [h3.2 hc]; rfl
  rw [ho]; omega
theorem X3 {c : Cs} {nd b : Nat} (hok : c.p.Ok) (hnd : nd ≤ 32) {us : List PU} {sd : List M} {s : Stp} {t : Int} (h : Hist c nd b us sd s t) {k : Nat} {u : PU} (hk : us[k]? = some u) {f : Nat} {j : Nat} (hj : (Ai c.p.N.toNat nd)[j]? = some (f : Int)) (hf48 : f < 48) (hl : ((f : Int), u.who) ∈ Ft c nd) (hh : 16 ≤ (f : Int) ∨ (f : Int) < c.p.N - c.p.F) (age : Int) :
  ∃ (u0 v : PU) (m : M) (t0 : Int), us[j]? = some v ∧ v.who = (f : Int) ∧ u0.who = (f : Int) ∧ sd[j]? = some m ∧ One c.p s u0 v m ∧ Fair c.p t0 s ∧ TB t0 ∧ t = t0 + c.p.Beat ∧ Eh f age (u.qs.getD f []) = [(m, age)] := by
 obtain ⟨us0, t0, h1, h2, h3, h4, h5, h6⟩ := h.last; obtain ⟨u0, hu0, hw0⟩ := D7 h1 hj; obtain ⟨v, m, hv, hm, hone, _, _⟩ := h3.one j u0 hu0; exact ⟨u0, v, m, t0, hv, hone.who.trans hw0, hw0, hm, hone, h4, h5, h6, (J2 h3 h1 hk hf48 age).2.1 j m hj hm hl (h4.hon hh)⟩
theorem N6 {c : Cs} {nd b : Nat} (hok : c.p.Ok) (hnd : nd ≤ 32) {us us' : List PU} {sd sd' : List M} {s s' : Stp} {t : Int} (h : Hist c nd b us sd s t) (hb : Beats c.p s' (Ai c.p.N.toNat nd) (Ft c nd) us us' sd') (hf : Fair c.p t s') (ht : TB t) {k : Nat} {u u' : PU} {m : M} (hk : us[k]? = some u) (hk' : us'[k]? = some u') (hone : One c.p s' u u' m) (hw : u.who < 16) :
  (u'.s.good = true ∧ u'.s.hops = 0 ∧ u'.s.held = 0 ∧ Bh ⟨u'.s.lo, u'.s.hi⟩ (t + c.p.Beat) (gN c.p)) ∧ ∃ i, InpOf c.p s' u.who u.qs i ∧ u'.s.lo = (Db c.p.F (Ck c.p u.who i)).lo ∧ u'.s.hi = (Db c.p.F (Ck c.p u.who i)).hi := by
 have hN := hok.N; have hF := hok.F; have hB := hok.Beat; have hE := hok.Eps; have hgN := O8 hok; have hh := He hok; obtain ⟨us0, t0, h1, h2, h3, h4, h5, h6⟩ := h.last; have hthin := h3.thin h1 hk; obtain ⟨i, hi, hbc⟩ := hone.inp; have hwm : u.who ∈ Ai c.p.N.toNat nd := List.mem_of_getElem? (Dc h.whos hk); rw [Ev] at hwm; have hw0 : 0 ≤ u.who ∧ u.who < c.p.N := by omega
 rcases hbc with ⟨_, hs, _, _⟩ | ⟨hx, _⟩
 ·have hne : (i.heard.map ma).Pairwise fun a b => a.1.from_ ≠ b.1.from_ := by rw [hi.heard]; exact Gk hthin _ 48 (Nat.le_refl _)
  have hsp := J1 (p := c.p) (me := u.who) hne; rw [hi.heard] at hsp; unfold Ai3 at hsp; have hTB := ht; unfold TB at hTB; obtain ⟨o1, o2⟩ := Asz hok hi ⟨hw0.1, hw⟩ ht hf
  have hfu := Rv hok (me := u.who) hthin (Ca c.p i) (age := Az c.p u.who s'.ages) (q := fun y => decide (tkM c.p u.who y ∧ y.1.ref = true)) (g := Bf5 c.p) (t := t + c.p.Beat) (r := gN c.p) (by omega) (by omega) (fun f hfR hfne => by
    obtain ⟨u0, v, mf, t1, hv, hvw, hu0w, hmf, honef, hfa, htb, hte, hrow⟩ := X3 hok hnd h hk (f := f) (j := f) (S2 (by omega)) (by omega) (by
      have := Bd0 (c := c) (nd := nd) hok (i := f) (k := u.who.toNat) (by omega) (by omega) (by omega); rw [Int.toNat_of_nonneg hw0.1] at this
      exact this) (.inr hfR) (Az c.p u.who s'.ages f)
    obtain ⟨r1, r2⟩ := honef.refs hok (by omega) htb hfa; obtain ⟨q1, q2⟩ := r1 (by omega); obtain ⟨sa, sk, _⟩ := honef.says; have hfrom : mf.from_ = (f : Int) := sa.from_.trans hvw; refine ⟨(mf, Az c.p u.who s'.ages f), hrow, decide_eq_true ⟨⟨sk (by omega), ?_, ?_, ?_⟩, q1⟩, ?_⟩
    ·show 0 ≤ mf.from_; omega
    ·show mf.from_ < min c.p.N 16; omega
    ·show mf.from_ ≠ u.who; omega
    ·rw [← hte] at q2; have := S0 hok (g := 2 * c.p.Eps) (by omega) (by omega) q2 (hf.age hok u.who f)
     exact this)
   (fun y hy => by
    have := of_decide_eq_true hy; obtain ⟨⟨_, a1, a2, a3⟩, _⟩ := this
    exact ⟨a1, by omega, a3⟩)
   ⟨fun hc => by
    obtain ⟨y, hy, hy2⟩ := o1 hc.2; refine ⟨y, hy, ?_⟩; unfold Bh at hy2 ⊢; unfold gN
    omega, fun hc => o2 fun hx => hc ⟨hw0.1, hx⟩⟩
  rw [← hsp] at hfu; obtain ⟨hfo, hft⟩ := hfu; have hg1 : Ku c.p u.who u.s i = { Xu c.p u.s i with lo := (Db c.p.F (Ck c.p u.who i)).lo, hi := (Db c.p.F (Ck c.p u.who i)).hi, held := 0, good := true } := if_pos hfo; have hgiv : i.given = false := by rw [hi.given]; exact (hf.read u.who s'.ticks).1
  have hgn : B7 c.p u.who u.s i = Ku c.p u.who u.s i := by unfold B7; rw [hgiv]; rfl
  have hlo : (B7 c.p u.who u.s i).lo = (Db c.p.F (Ck c.p u.who i)).lo := by rw [hgn, hg1]
  have hhi : (B7 c.p u.who u.s i).hi = (Db c.p.F (Ck c.p u.who i)).hi := by rw [hgn, hg1]
  have hhe : (B7 c.p u.who u.s i).held = 0 := by rw [hgn, hg1]
  have hho : (B7 c.p u.who u.s i).hops = 0 := by rw [hgn, hg1]; rfl
  have hgo : (B7 c.p u.who u.s i).good = true := by rw [hgn, hg1]
  have hD := hok.D
  have hf5 : Qj c.p (B7 c.p u.who u.s i) := by
   unfold Qj; rw [hlo, hhi, hhe, hho]; unfold Bh at hft; omega
  obtain ⟨s1, s2, s3, s4, s5⟩ := K5 hok hf5; obtain ⟨f1, f2, f3, f4, f5, _⟩ := Nn c.p u.s i.ticks (B7 c.p u.who u.s i); have e : u'.s = Bm (B1 c.p u.s i.ticks (B7 c.p u.who u.s i)) := hs; obtain ⟨p1, p2, p3, p4, p5, _⟩ := L5 (B1 c.p u.s i.ticks (B7 c.p u.who u.s i)); rw [e, p1, p2, p3, p4, p5, f1, f2, f3, f4, f5, s1, s2, s3, s4, s5, hlo, hhi, hhe, hho, hgo]; exact ⟨⟨rfl, rfl, rfl, hft⟩, i, hi, rfl, rfl⟩
 ·exact absurd hw hx
theorem Ao3 {c : Cs} {nd b : Nat} (hok : c.p.Ok) (hnd : nd ≤ 32) {us us' : List PU} {sd sd' : List M} {s s' : Stp} {t : Int} (h : Hist c nd b us sd s t) (hb : Beats c.p s' (Ai c.p.N.toNat nd) (Ft c nd) us us' sd') (hf : Fair c.p t s') (ht : TB t) {k : Nat} {u u' : PU} {m : M} (hk : us[k]? = some u) (hk' : us'[k]? = some u') (hone : One c.p s' u u' m) (hw : u.who < 16) :
  u'.s.good = true ∧ u'.s.hops = 0 ∧ u'.s.held = 0 ∧ Bh ⟨u'.s.lo, u'.s.hi⟩ (t + c.p.Beat) (gN c.p) := (N6 hok hnd h hb hf ht hk hk' hone hw).1
theorem Te {k : Int} {v v0 : Int × Int} {es : NT} (h : Cb k es = some v0) : Cb k (Ki k v es) = some v := by
  induction es with
  | nil => cases h
  | cons e es ih =>
    unfold Ki; unfold Cb at h
    by_cases hk : k = e.key
    · rw [if_pos hk]; unfold Cb; rw [if_pos hk]
    · rw [if_neg hk] at h ⊢; unfold Cb; rw [if_neg hk]; exact ih h
theorem Rf {k k' : Int} (hne : k' ≠ k) {v : Int × Int} {es : NT} : Cb k' (Ki k v es) = Cb k' es := by
  induction es with
  | nil => rfl
  | cons e es ih =>
    unfold Ki
    by_cases hk : k = e.key
    · rw [if_pos hk]; unfold Cb; rw [if_neg (by rw [← hk]; exact hne), if_neg (by rw [← hk]; exact hne)]
    · rw [if_neg hk]; unfold Cb; rw [ih]
theorem Xx {k' : Int} {x : Ent Int (Int × Int)} {es : NT} : Cb k' (es ++ [x]) = match Cb k' es with | some v => some v | none => if k' = x.key then some x.val else none := by
  induction es with
  | nil => rfl
  | cons e es ih =>
    rw [List.cons_append]; unfold Cb
    by_cases hk : k' = e.key
    · rw [if_pos hk, if_pos hk]
    · rw [if_neg hk, if_neg hk]; exact ih
theorem Td {k : Int} {v : Int × Int} {c : Nat} {es : NT} : Cb k (H5 k v c es) = some v := by
 unfold H5
 cases h : Cb k es with
 | some v0 => exact Te h
 | none => dsimp only; rw [Xx, h]; exact if_pos rfl
theorem Kv {k k' : Int} (hne : k' ≠ k) {v : Int × Int} {c : Nat} {es : NT} : Cb k' (H5 k v c es) = Cb k' es := by
  unfold H5
  cases h : Cb k es with
  | some v0 => exact Rf hne
  | none =>
    dsimp only; rw [Xx]
    cases Cb k' es with
    | some v => rfl
    | none => exact if_neg hne
theorem mem_set {k : Int} {v : Int × Int} {es : NT} {e : Ent Int (Int × Int)} (h : e ∈ Ki k v es) : e ∈ es ∨ e.key = k := by
  induction es with
  | nil => cases h
  | cons x es ih =>
    unfold Ki at h; split at h
    · rename_i hk; rcases List.mem_cons.1 h with rfl | h
      · exact .inr hk.symm
      · exact .inl (.tail _ h)
    · rcases List.mem_cons.1 h with rfl | h
      · exact .inl (.head _)
      · exact (ih h).imp (.tail _) id
theorem Aj8 {k : Int} {v : Int × Int} {c : Nat} {es : NT} {e : Ent Int (Int × Int)} (h : e ∈ H5 k v c es) : e ∈ es ∨ e.key = k := by
 unfold H5 at h; split at h
 ·exact mem_set h
 ·rcases List.mem_append.1 h with h | h
  ·exact .inl h
  ·rw [List.mem_singleton] at h; subst h; exact .inr rfl
theorem A06 {who : Int} {c : Nat} {es : NT} {e : Ent Int (Int × Int)} (h : e ∈ Jk es who c) : e ∈ es ∨ e.key = who := by
 unfold Jk at h; split at h
 ·exact Aj8 h
 ·exact .inl h
theorem Aq5 {me : Int} {l : List Hd} {k : KS} {e : Ent Int (Int × Int)} (h : e ∈ (Ah me k l).es) : e ∈ k.es ∨ ∃ x ∈ l, e.key = x.m.from_ := by
  unfold Ah at h
  induction l generalizing k with
  | nil => exact .inl h
  | cons x l ih =>
    rcases ih h with h | ⟨y, hy, e2⟩
    · show e ∈ k.es ∨ _; have h2 : e ∈ knE me k x := h; unfold knE at h2; split at h2
      · exact .inl h2
      · exact (A06 h2).imp id fun e2 => ⟨x, .head _, e2⟩
    · exact .inr ⟨y, .tail _ hy, e2⟩
def Qn (ws : List Int) (b : Nat) (es : NT) : Prop := ∀ e ∈ es, 1 ≤ e.val.2 ∧ (e.key ∈ ws ∨ ((b : Int) ≤ e.val.2 ∧ b ≤ 3))
theorem Yl {es : NT} {e' : Ent Int (Int × Int)} (h : e' ∈ En 2 es) : ∃ e ∈ es, ¬ D3 2 e ∧ e' = Ey 2 e := by
 unfold En at h; obtain ⟨e, he, rfl⟩ := List.mem_map.1 h; obtain ⟨h1, h2⟩ := List.mem_filter.1 he; exact ⟨e, h1, by simpa using h2, rfl⟩
theorem At6 {ws : List Int} {es : NT} (h : NearFit es) (me : Int) (c : Nat) (l : List Hd) : Qn ws 1 (En 2 (Ad me es c l).es) := by
 intro e' he'; obtain ⟨e, he, _, rfl⟩ := Yl he'; have hf := (NearFit.known (k := ⟨es, c, []⟩) h me l).val e he; show 1 ≤ min (e.val.2 + 1) 1073741824 ∧ (_ ∨ (1 : Int) ≤ min (e.val.2 + 1) 1073741824 ∧ _); exact ⟨by omega, .inr ⟨by omega, by decide⟩⟩
theorem A66 {ws : List Int} {b : Nat} (hb : 1 ≤ b) {es : NT} (h : NearFit es) (hi : Qn ws b es) (me : Int) (c : Nat) {l : List Hd} (hl : ∀ x ∈ l, x.m.from_ ∈ ws) : Qn ws (b + 1) (En 2 (Ad me es c l).es) := by
 intro e' he'; obtain ⟨e, he, hg, rfl⟩ := Yl he'; have hf := (NearFit.known (k := ⟨es, c, []⟩) h me l).val e he; show 1 ≤ min (e.val.2 + 1) 1073741824 ∧ (e.key ∈ ws ∨ ((b + 1 : Nat) : Int) ≤ min (e.val.2 + 1) 1073741824 ∧ _); refine ⟨by omega, ?_⟩; rcases Aq5 he with he | ⟨x, hx, hk⟩
 ·rcases (hi e he).2 with h1 | ⟨h1, h2⟩
  ·exact .inl h1
  ·refine .inr ⟨?_, ?_⟩
   ·omega
   ·unfold D3 at hg; omega
 ·exact .inl (by rw [hk]; exact hl x hx)
theorem A64 {ws : List Int} {b : Nat} (hb : 4 ≤ b) {es : NT} (hi : Qn ws b es) : ∀ e ∈ es, e.key ∈ ws := fun e he => (hi e he).2.elim id fun h => by omega
theorem Ap7 {ws : List Int} (hws : ∀ w ∈ ws, 0 ≤ w ∧ w < 48) (hlen : ws.length ≤ 15) {me : Int} {es0 : NT} : ∀ (l : List Hd) (k : KS) (pre : List Hd), (pre ++ l).Pairwise (fun a b => a.m.from_ ≠ b.m.from_) → (∀ x ∈ l, x.m.from_ ∈ ws ∧ x.m.from_ ≠ me) → NearFit k.es → (∀ e ∈ k.es, e.key ∈ ws) → k.out.Sublist pre →
    (∀ x ∈ l, Cb x.m.from_ k.es = Cb x.m.from_ es0) →
    (Ah me k l).out = k.out ++ l.filter (fun h => decide (E3 (Cf es0 h.m.from_).1 h)) ∧ (∀ x ∈ l, Cb x.m.from_ (Ah me k l).es = some ((Cf es0 x.m.from_).1, 0)) ∧ (∀ w, (∀ x ∈ l, x.m.from_ ≠ w) → Cb w (Ah me k l).es = Cb w k.es) := by
  intro l
  induction l with
  | nil => intro k pre _ _ _ _ _ _; exact ⟨by simp [Ah], (fun x h => by cases h), fun w _ => O⟩
  | cons x l ih =>
    intro k pre hp hl hn hk ho hg; have hx := hl x (.head _)
    have hskip : ¬ J5 me k x := by
      rintro (⟨y, hy, e⟩ | e)
      · rw [List.pairwise_append] at hp; exact hp.2.2 y (ho.subset hy) x (.head _) (of_decide_eq_true e)
      · exact hx.2 e
    have hroom : k.es.length ≤ 15 := by
      have := Oj hn.keys (bs := ws) (fun w hw => by obtain ⟨e, he, rfl⟩ := List.mem_map.1 hw; exact hk e he); rw [List.length_map] at this; omega
    have herr : Dh k.es x.m.from_ = 0 := by
      unfold Dh; have := hws _ hx.1; rw [if_neg (by omega), if_neg (by rintro ⟨_, h⟩; omega)]
    have hnear : Cf k.es x.m.from_ = Cf es0 x.m.from_ := by unfold Cf; rw [hg x (.head _)]
    have hE : knE me k x = H5 x.m.from_ ((Cf es0 x.m.from_).1, 0) k.clock k.es := by
      unfold knE Jk; rw [if_neg hskip, if_pos herr, hnear]
    have hstep : Hz me k x = ⟨knE me k x, knC me k x, if E3 (Cf es0 x.m.from_).1 x then k.out ++ [x] else k.out⟩ := by
      unfold Hz; rw [hnear]
      congr 1
      by_cases ht : E3 (Cf es0 x.m.from_).1 x
      · rw [if_pos ⟨⟨hskip, herr⟩, ht⟩, if_pos ht]
      · rw [if_neg (fun h => ht h.2), if_neg ht]
    have hp2 : ((pre ++ [x]) ++ l).Pairwise (fun a b => a.m.from_ ≠ b.m.from_) := by simpa using hp
    have hdist : ∀ y ∈ l, y.m.from_ ≠ x.m.from_ := by
      intro y hy e; rw [List.pairwise_append] at hp; exact (List.pairwise_cons.1 hp.2.1).1 y hy e.symm
    have hnf : NearFit (knE me k x) := by
      unfold knE; rw [if_neg hskip]; exact hn.hear _ _
    obtain ⟨r1, r2, r3⟩ := ih (Hz me k x) (pre ++ [x]) hp2 (fun y hy => hl y (.tail _ hy)) (by rw [hstep]; exact hnf) (by
        rw [hstep]; intro e he; have he2 : e ∈ knE me k x := he; rw [hE] at he2; rcases Aj8 he2 with he2 | e2
        · exact hk e he2
        · rw [e2]; exact hx.1)
      (by
        rw [hstep]; dsimp only; split
        · exact List.Sublist.append ho (.refl _)
        · exact ho.trans (List.sublist_append_left _ _))
      (fun y hy => by
        rw [hstep]; show Cb y.m.from_ (knE me k x) = _; rw [hE, Kv (hdist y hy)]
        exact hg y (.tail _ hy))
    have hF : Ah me k (x :: l) = Ah me (Hz me k x) l := rfl; rw [hF]; refine ⟨?_, ?_, ?_⟩
    · rw [r1, hstep]; dsimp only; rw [List.filter_cons]
      by_cases ht : E3 (Cf es0 x.m.from_).1 x
      · rw [if_pos ht, if_pos (decide_eq_true ht), List.append_assoc]; rfl
      · rw [if_neg ht, if_neg (by simpa using ht)]
    · intro y hy; rcases List.mem_cons.1 hy with rfl | hy
      · rw [r3 _ hdist, hstep]; show Cb y.m.from_ (knE me k y) = _; rw [hE, Td]
      · exact r2 y hy
    · intro w hw; rw [r3 w (fun y hy => hw y (.tail _ hy)), hstep]; show Cb w (knE me k x) = _; rw [hE, Kv (fun e => hw x (.head _) e.symm)]
theorem Ad0 {ws : List Int} (hws : ∀ w ∈ ws, 0 ≤ w ∧ w < 48) (hlen : ws.length ≤ 15) {me : Int} {es0 : NT} (hn : NearFit es0) (hk : ∀ e ∈ es0, e.key ∈ ws) (c : Nat) {l : List Hd} (hd : l.Pairwise fun a b => a.m.from_ ≠ b.m.from_) (hl : ∀ x ∈ l, x.m.from_ ∈ ws ∧ x.m.from_ ≠ me) :
  (Ad me es0 c l).out = l.filter (fun h => decide (E3 (Cf es0 h.m.from_).1 h)) ∧ ∀ x ∈ l, 0 < (Cf (En 2 (Ad me es0 c l).es) x.m.from_).1 := by
 obtain ⟨r1, r2, _⟩ := Ap7 hws hlen (me := me) (es0 := es0) l ⟨es0, c, []⟩ [] (by simpa using hd) hl hn hk (.refl _) (fun x _ => rfl); refine ⟨by rw [List.nil_append] at r1; exact r1, fun x hx => ?_⟩; have hnf : NearFit (Ad me es0 c l).es := NearFit.known (k := ⟨es0, c, []⟩) hn me l; obtain ⟨e, he, hek, hev⟩ := N7 (r2 x hx); have hq : e.val.2 = 0 := by rw [hev]
 have hg : ¬ D3 2 e := by unfold D3; omega
 have hm : Ey 2 e ∈ En 2 (Ad me es0 c l).es := by
  unfold En; exact List.mem_map.2 ⟨e, List.mem_filter.2 ⟨he, by simpa using hg⟩, rfl⟩
 have hgv := Xy hm (NearFit.tick hnf 2).keys; have hke : (Ey 2 e).key = x.m.from_ := hek; rw [hke] at hgv; unfold Cf; rw [hgv]; show 0 < (Ey 2 e).val.1; unfold Ey; dsimp only; rw [if_neg hg, if_pos hq]; have := (hnf.val e he).1; omega
theorem Hist.pos {c : Cs} {nd b : Nat} {us : List PU} {sd : List M} {s : Stp} {t : Int} (h : Hist c nd b us sd s t) : 1 ≤ b := by cases h <;> omega
theorem Btq {c : Cs} (hok : c.p.Ok) {nd : Nat} (hnd : nd ≤ 32) : ∀ w ∈ Ai c.p.N.toNat nd, 0 ≤ w ∧ w < 48 := by
 intro w hw; rw [Ev] at hw; have := hok.N; omega
theorem Lf {c : Cs} {nd b : Nat} (hok : c.p.Ok) {us : List PU} {sd : List M} {s : Stp} {t : Int} (h : Hist c nd b us sd s t) {k : Nat} {u : PU} (hk : us[k]? = some u) {age : Nat → Int} {y : M × Int} (hy : y ∈ Bj u.qs age 48) : ∃ f : Nat, f < 48 ∧ y.1.from_ = (f : Int) ∧ y ∈ Eh f (age f) (u.qs.getD f []) ∧ (f : Int) ∈ Ai c.p.N.toNat nd ∧ ((f : Int), u.who) ∈ Ft c nd ∧ (f : Int) ≠ u.who ∧ y.1.Ok ∧ y.2 = age f := by
 obtain ⟨us0, t0, h1, h2, h3, h4, h5, h6⟩ := h.last; obtain ⟨f, hf, hr⟩ := Mb hy; have hc := J2 h3 h1 hk hf (age f); have hb : ¬ ((f : Int) ∉ Ai c.p.N.toNat nd ∨ ((f : Int), u.who) ∉ Ft c nd) := fun hx => by rw [hc.1 hx] at hr; cases hr
 have hw : (f : Int) ∈ Ai c.p.N.toNat nd := Classical.byContradiction fun hx => hb (.inl hx); have hl : ((f : Int), u.who) ∈ Ft c nd := Classical.byContradiction fun hx => hb (.inr hx); obtain ⟨q1, q2, q3⟩ := hc.2.2 y hr; exact ⟨f, hf, q1, hr, hw, hl, (Aj3 hok hl).1, q2, q3⟩
theorem R4 {c : Cs} {nd b : Nat} (hok : c.p.Ok) {us : List PU} {sd : List M} {s : Stp} {t : Int} (h : Hist c nd b us sd s t) {k : Nat} {u : PU} (hk : us[k]? = some u) {s' : Stp} {i : Inp} (hi : InpOf c.p s' u.who u.qs i) :
  (i.heard.Pairwise fun a b => a.m.from_ ≠ b.m.from_) ∧ ∀ x ∈ i.heard, x.m.from_ ∈ Ai c.p.N.toNat nd ∧ x.m.from_ ≠ u.who := by
 obtain ⟨us0, t0, h1, h2, h3, h4, h5, h6⟩ := h.last; have hne : (i.heard.map ma).Pairwise fun a b => a.1.from_ ≠ b.1.from_ := by rw [hi.heard]; exact Gk (h3.thin h1 hk) _ 48 (Nat.le_refl _)
 rw [List.pairwise_map] at hne; refine ⟨hne, fun x hx => ?_⟩; have hm : ma x ∈ Bj u.qs (Az c.p u.who s'.ages) 48 := by rw [← hi.heard]; exact List.mem_map_of_mem hx
 obtain ⟨f, _, hf, _, hw, _, hne2, _⟩ := Lf hok h hk hm; rw [show x.m.from_ = (f : Int) from hf]; exact ⟨hw, hne2⟩
theorem A63 {c : Cs} {nd b : Nat} (hok : c.p.Ok) {us : List PU} {sd : List M} {s : Stp} {t : Int} (h : Hist c nd b us sd s t) : ∀ (k : Nat) (u : PU), us[k]? = some u → ¬ u.who < 16 → Qn (Ai c.p.N.toNat nd) b u.es := by
  induction h with
  | one h1 hfit hb hf ht =>
    intro k u' hk' hw; obtain ⟨u, hu, hwu⟩ := D7 h1 (Dc (B8 hb h1) hk'); obtain ⟨u2, m, hu2, _, hone, _⟩ := hb.one k u hu; rw [hk'] at hu2; injection hu2 with hu2; subst hu2; obtain ⟨i, hi, hbc⟩ := hone.inp; rcases hbc with ⟨hx, _⟩ | ⟨_, clock, tab, _, _, he, _⟩
    · exact absurd (by rw [hwu] at hx; exact hx) hw
    · rw [he]; exact At6 (hfit u (List.mem_of_getElem? hu)).2 _ _ _
  | @next b us0 us sd0 sd s0 s t h0 hfit hb hf ht ih =>
    intro k u' hk' hw; obtain ⟨u, hu, hwu⟩ := D7 h0.whos (Dc (B8 hb h0.whos) hk'); obtain ⟨u2, m, hu2, _, hone, _⟩ := hb.one k u hu; rw [hk'] at hu2; injection hu2 with hu2; subst hu2; obtain ⟨i, hi, hbc⟩ := hone.inp; rcases hbc with ⟨hx, _⟩ | ⟨hx, clock, tab, _, _, he, _⟩
    · exact absurd (by rw [hwu] at hx; exact hx) hw
    · rw [he]; exact A66 h0.pos (hfit u (List.mem_of_getElem? hu)).2 (ih k u hu hx) _ _ fun x hx2 => ((R4 hok h0 hu hi).2 x hx2).1
def knM (es : NT) (y : M × Int) : Prop := (y.1.kind = 1 ∧ y.1.from_ < 16) ∨ (y.1.kind = 2 ∧ 16 ≤ y.1.from_ ∧ 0 < (Cf es y.1.from_).1)
instance (es : NT) (y : M × Int) : Decidable (knM es y) := by unfold knM; infer_instance
theorem Lk {c : Cs} {nd b : Nat} (hok : c.p.Ok) (hnd : nd ≤ 32) (hws : (Ai c.p.N.toNat nd).length ≤ 15) (hb4 : 4 ≤ b) {us us' : List PU} {sd sd' : List M} {s s' : Stp} {t : Int} (h : Hist c nd b us sd s t) (hfit : Z4 c.p us) (hb : Beats c.p s' (Ai c.p.N.toNat nd) (Ft c nd) us us' sd') {k : Nat} {u u' : PU} {m : M} (hk : us[k]? = some u) (hone : One c.p s' u u' m) (hw : ¬ u.who < 16) :
  ∃ (out : List Hd) (tab : List (Int × Int)), out.map ma = (Bj u.qs (Az c.p u.who s'.ages) 48).filter (fun y => decide (knM u.es y)) ∧ u'.s = Bm (Ax c.p out u.s (Fe c.p u.who s'.ticks) tab) ∧ ∀ x ∈ Bj u.qs (Az c.p u.who s'.ages) 48, 0 < (Cf u'.es x.1.from_).1 := by
 obtain ⟨i, hi, hbc⟩ := hone.inp; rcases hbc with ⟨hx, _⟩ | ⟨_, clock, tab, _, hs, he, _⟩
 ·exact absurd hx hw
 ·have hf := hfit u (List.mem_of_getElem? hk); obtain ⟨n1, n2⟩ := R4 hok h hk hi; obtain ⟨r1, r2⟩ := Ad0 (Btq hok hnd) hws (me := u.who) hf.2 (A64 hb4 (A63 hok h k u hk hw)) clock n1 n2; refine ⟨_, tab, ?_, by rw [← hi.ticks]; exact hs, ?_⟩
  ·rw [r1, ← hi.heard, List.filter_map]; rfl
  ·intro x hx; rw [← hi.heard] at hx; obtain ⟨y, hy, rfl⟩ := List.mem_map.1 hx; rw [he]; exact r2 y hy
theorem Pr (p : Par) (out : List Hd) (s : Stt) (ticks : Int) (tab : List (Int × Int)) : (Bm (Ax p out s ticks tab)).lo = (Bf p (Am p out s ticks tab)).lo ∧ (Bm (Ax p out s ticks tab)).hi = (Bf p (Am p out s ticks tab)).hi ∧ (Bm (Ax p out s ticks tab)).held = (Bf p (Am p out s ticks tab)).held ∧ (Bm (Ax p out s ticks tab)).hops = (Bf p (Am p out s ticks tab)).hops ∧ (Bm (Ax p out s ticks tab)).good = (Bf p (Am p out s ticks tab)).good ∧ (Bm (Ax p out s ticks tab)).time = I1 p s ticks (Am p out s ticks tab) ∧ (Bm (Ax p out s ticks tab)).set = true := by
 obtain ⟨a1, a2, a3, a4, a5, a6, a7⟩ := L5 (Ax p out s ticks tab); obtain ⟨b1, b2, b3, b4, b5, b6, b7⟩ := Ri p (B1 p s ticks (Am p out s ticks tab)) out; obtain ⟨c1, c2, c3, c4, c5, c6, c7⟩ := Nn p s ticks (Am p out s ticks tab); unfold Ax at *; exact ⟨a1.trans (b1.trans c1), a2.trans (b2.trans c2), a3.trans (b3.trans c3), a4.trans (b4.trans c4), a5.trans (b5.trans c5), a6.trans (b6.trans c6), a7.trans (b7.trans c7)⟩
def lx (a b : M) : Prop := a.hops < b.hops ∨ a.hops = b.hops ∧ (a.held < b.held ∨ a.held = b.held ∧ a.from_ < b.from_)
theorem Tq (a b : M) : Vb a b < 0 ↔ lx a b := by
 unfold Vb lx Eo Qy
 by_cases h1 : a.hops < b.hops
 ·rw [if_pos h1]; simp; omega
 ·by_cases h2 : b.hops < a.hops
  ·rw [if_neg h1, if_pos h2]; simp; omega
  ·rw [if_neg h1, if_neg h2]; unfold Eo
   by_cases h3 : a.held < b.held
   ·rw [if_pos h3]; simp; omega
   ·by_cases h4 : b.held < a.held
    ·rw [if_neg h3, if_pos h4]; simp; omega
    ·rw [if_neg h3, if_neg h4]; unfold Eo
     by_cases h5 : a.from_ < b.from_
     ·rw [if_pos h5]; simp; omega
     ·by_cases h6 : b.from_ < a.from_
      ·rw [if_neg h5, if_pos h6]; simp; omega
      ·rw [if_neg h5, if_neg h6]; simp [Eo]; omega
theorem choose_spec (p : Par) (l : List Hd) : (B2 p l = none → ∀ h ∈ l, ¬ C6 p h.m) ∧ ∀ b, B2 p l = some b → b ∈ l ∧ C6 p b.m ∧ ∀ h ∈ l, C6 p h.m → ¬ lx h.m b.m := by
  have key : ∀ (l pre : List Hd) (o : Option Hd), ((o = none → ∀ h ∈ pre, ¬ C6 p h.m) ∧ ∀ b, o = some b → b ∈ pre ∧ C6 p b.m ∧ ∀ h ∈ pre, C6 p h.m → ¬ lx h.m b.m) →
      ((l.foldl (H8 p) o = none → ∀ h ∈ pre ++ l, ¬ C6 p h.m) ∧ ∀ b, l.foldl (H8 p) o = some b → b ∈ pre ++ l ∧ C6 p b.m ∧ ∀ h ∈ pre ++ l, C6 p h.m → ¬ lx h.m b.m) := by
    intro l
    induction l with
    | nil => intro pre o h; simpa using h
    | cons x l ih =>
      intro pre o h
      have := ih (pre ++ [x]) (H8 p o x) (by
        unfold H8
        by_cases ht : takes p o x
        · rw [if_pos ht]; refine ⟨(fun hx => by cases hx), fun b hb => ?_⟩; injection hb with hb; subst hb; refine ⟨List.mem_append.2 (.inr (.head _)), ht.1, fun y hy hyu => ?_⟩; rcases List.mem_append.1 hy with hy | hy
          · cases o with
            | none => exact absurd hyu (h.1 rfl y hy)
            | some b0 =>
              have h2 := (h.2 b0 rfl).2.2 y hy hyu; have h3 : lx x.m b0.m := (Tq _ _).1 ht.2; unfold lx at h2 h3 ⊢; omega
          · rw [List.mem_singleton] at hy; subst hy; unfold lx; omega
        · rw [if_neg ht]; refine ⟨fun ho y hy => ?_, fun b hb => ?_⟩
          · rcases List.mem_append.1 hy with hy | hy
            · exact h.1 ho y hy
            · rw [List.mem_singleton] at hy; subst hy; subst ho; exact fun hu => ht ⟨hu, trivial⟩
          · obtain ⟨q1, q2, q3⟩ := h.2 b hb; refine ⟨List.mem_append.2 (.inl q1), q2, fun y hy hyu => ?_⟩; rcases List.mem_append.1 hy with hy | hy
            · exact q3 y hy hyu
            · rw [List.mem_singleton] at hy; subst hy; subst hb
              exact fun hl => ht ⟨hyu, (Tq _ _).2 hl⟩)
      simpa using this
  have := key l [] none ⟨(fun _ h hh => by cases hh), (fun b hb => by cases hb)⟩; rw [List.nil_append] at this; exact this
theorem R2 {p : Par} {l : List Hd} {x : Hd} : x ∈ Cg p l ↔ ∃ y ∈ l, ¬ y.m.shi < y.m.slo ∧ x = Oy p y := by
  have key : ∀ (l : List Hd) (acc : List Hd), x ∈ l.foldl (Iu p) acc ↔ x ∈ acc ∨ ∃ y ∈ l, ¬ y.m.shi < y.m.slo ∧ x = Oy p y := by
    intro l
    induction l with
    | nil => intro acc; simp
    | cons z l ih =>
      intro acc; rw [List.foldl_cons, ih]; unfold Iu
      by_cases hz : z.m.shi < z.m.slo
      · rw [if_pos hz]; refine ⟨fun h => h.imp id fun ⟨y, hy, h2⟩ => ⟨y, .tail _ hy, h2⟩, fun h => h.imp id fun ⟨y, hy, h2⟩ => ?_⟩; rcases List.mem_cons.1 hy with rfl | hy
        · exact absurd hz h2.1
        · exact ⟨y, hy, h2⟩
      · rw [if_neg hz]; constructor
        · rintro (h | ⟨y, hy, h2⟩)
          · rcases List.mem_append.1 h with h | h
            · exact .inl h
            · rw [List.mem_singleton] at h; exact .inr ⟨z, .head _, hz, h⟩
          · exact .inr ⟨y, .tail _ hy, h2⟩
        · rintro (h | ⟨y, hy, h2⟩)
          · exact .inl (List.mem_append.2 (.inl h))
          · rcases List.mem_cons.1 hy with rfl | hy
            · exact .inl (List.mem_append.2 (.inr (by rw [h2.2]; exact .head _)))
            · exact .inr ⟨y, hy, h2⟩
  have := key l []; unfold Cg; exact ⟨fun h => (this.1 h).resolve_left (fun h => by cases h), fun h => this.2 (.inr h)⟩
theorem Ac4 {c : Cs} {nd b : Nat} (hok : c.p.Ok) (hnd : nd ≤ 32) {us : List PU} {sd : List M} {s : Stp} {t : Int} (h : Hist c nd b us sd s t) (hb : 2 ≤ b) : ∀ (k : Nat) (u : PU), us[k]? = some u → u.who < 16 → u.s.good = true ∧ u.s.hops = 0 ∧ u.s.held = 0 ∧ Bh ⟨u.s.lo, u.s.hi⟩ t (gN c.p) := by
  cases h with
  | one => omega
  | @next b us0 us sd0 sd s0 s t h0 hfit hbe hf ht =>
    intro k u' hk' hw; obtain ⟨u, hu, hwu⟩ := D7 h0.whos (Dc (B8 hbe h0.whos) hk'); obtain ⟨u2, m, hu2, _, hone, _⟩ := hbe.one k u hu; rw [hk'] at hu2; injection hu2 with hu2; subst hu2; exact Ao3 hok hnd h0 hbe hf ht hu hk' hone (by omega)
theorem H9 {p : Par} (hp : p.Ok) (es : NT) (l : List (M × Int)) : Ls p (l.filter fun y => decide (knM es y)) = Ls p l := by
 unfold Ls; rw [List.filter_filter]; apply List.filter_congr
 intro y _; rw [Bool.eq_iff_iff, Bool.and_eq_true, decide_eq_true_eq, decide_eq_true_eq]; refine ⟨fun h => h.1, fun h => ⟨h, .inl ⟨h.1.1, ?_⟩⟩⟩; have := h.1.2.2.1; omega
theorem Wl {out : List Hd} {l : List (M × Int)} {q : M × Int → Bool} (hl : l.Pairwise fun a b => a.1.from_ ≠ b.1.from_) (h : out.map ma = l.filter q) : (out.map ma).Pairwise fun a b => a.1.from_ ≠ b.1.from_ := by
 rw [h]; exact List.Pairwise.sublist List.filter_sublist hl
def V5 (c : Cs) (who : Int) : Prop := who - 16 ∈ c.core
theorem Nx {c : Cs} {nd b : Nat} (hok : c.p.Ok) (hnd : nd ≤ 32) (hb : 2 ≤ b) {us : List PU} {sd : List M} {s s' : Stp} {t : Int} (h : Hist c nd b us sd s t) (hf : Fair c.p t s') (ht : TB t) {k : Nat} {u : PU} (hk : us[k]? = some u) (hw : ¬ u.who < 16) (hco : V5 c u.who) {out : List Hd}
  (ho : out.map ma = (Bj u.qs (Az c.p u.who s'.ages) 48).filter (fun y => decide (knM u.es y))) :
  E0 c.p out ∧ Bh (Db c.p.F (Gu c.p out)) (t + c.p.Beat) (gN c.p + I9 c.p) ∧ 0 ≤ Gl c.p.F ((G6 c.p out).map Cq) ∧ Gl c.p.F ((G6 c.p out).map Cq) ≤ 1 := by
 have hN := hok.N; have hF := hok.F; have hB := hok.Beat
 have hgN := O8 hok; have hh := He hok; obtain ⟨us0, t0, h1, h2, h3, h4, h5, h6⟩ := h.last; have hthin := h3.thin h1 hk; have hne := Gk hthin (Az c.p u.who s'.ages) 48 (Nat.le_refl _); obtain ⟨e1, e2⟩ := Pz (p := c.p) (Wl hne ho); rw [ho, H9 hok] at e1 e2; have hwm : u.who ∈ Ai c.p.N.toNat nd := List.mem_of_getElem? (Dc h.whos hk); rw [Ev] at hwm; have hTB := ht; unfold TB at hTB
 have rows : ∀ f : Nat, (f : Int) < c.p.N - c.p.F → ∃ mf : M, Eh f (Az c.p u.who s'.ages f) (u.qs.getD f []) = [(mf, Az c.p u.who s'.ages f)] ∧ (tkM c.p (-1) (mf, Az c.p u.who s'.ages f) ∧ Il (mf, Az c.p u.who s'.ages f)) ∧ mf.held = 0 ∧ Bh ⟨mf.slo, mf.shi⟩ t (gN c.p) := by
  intro f hfR
  obtain ⟨u0, v, mf, t1, hv, hvw, hu0w, hmf, honef, hfa, htb, hte, hrow⟩ := X3 hok hnd h hk (f := f) (j := f) (S2 (by omega)) (by omega) (by
    have hc2 : (((u.who - 16).toNat : Nat) : Int) ∈ c.core := by
     rw [Int.toNat_of_nonneg (by omega)]; exact hco
    have := Bcz (c := c) (nd := nd) hok hnd (i := f) (v := (u.who - 16).toNat) (by omega) (by omega) hc2; rw [Int.toNat_of_nonneg (by omega), show 16 + (u.who - 16) = u.who by omega] at this
    exact this) (.inr hfR) (Az c.p u.who s'.ages f)
  obtain ⟨g1, g2, g3, g4⟩ := Ac4 hok hnd h hb f v hv (by omega); obtain ⟨sa, sk, _⟩ := honef.says; have hfrom : mf.from_ = (f : Int) := sa.from_.trans hvw; have g5 := g4; unfold Bh at g5; dsimp only at g5; refine ⟨mf, hrow, ⟨⟨sk (by omega), ?_, ?_, ?_⟩, ?_, ?_⟩, sa.held.trans g3, ?_⟩
  ·show 0 ≤ mf.from_; omega
  ·show mf.from_ < min c.p.N 16; omega
  ·show mf.from_ ≠ -1; omega
  ·show mf.good = true; rw [sa.good]; exact g1
  ·show ¬ mf.shi < mf.slo; rw [sa.slo, sa.shi]; omega
  ·rw [sa.slo, sa.shi]; exact g4
 have hq2 : ∀ y : M × Int, decide (tkM c.p (-1) y ∧ Il y) = true → 0 ≤ y.1.from_ ∧ y.1.from_ < c.p.N ∧ y.1.from_ ≠ -1 := by
  intro y hy; obtain ⟨⟨_, a1, a2, a3⟩, _⟩ := of_decide_eq_true hy; exact ⟨a1, by omega, a3⟩
 have hfu := Rv hok (me := -1) hthin [] (age := Az c.p u.who s'.ages) (q := fun y => decide (tkM c.p (-1) y ∧ Il y)) (g := Bf6 c.p) (t := t + c.p.Beat) (r := gN c.p + I9 c.p) (by omega) (by omega) (fun f hfR _ => by
   obtain ⟨mf, hrow, hq, _, htr⟩ := rows f hfR
   exact ⟨_, hrow, decide_eq_true hq, S0 hok (by omega) (by omega) htr (hf.age hok u.who f)⟩) hq2 ⟨fun hc => by omega, fun _ => rfl⟩
 rw [List.nil_append] at hfu; unfold Ls at e1 e2; rw [← e1] at hfu; refine ⟨hfu.1, hfu.2, ?_⟩
 have hm := mixed (D := Lw (fun y => decide (tkM c.p (-1) y ∧ Il y)) (fun y => (⟨y.1.held, 0⟩ : Sp)) u.qs (Az c.p u.who s'.ages)) (P := fun s => decide (s.lo ≤ 0)) (N := c.p.N.toNat) (R := (c.p.N - c.p.F).toNat) (me := -1) (by omega) (fun f hf2 _ => by
   obtain ⟨mf, hrow, hq, hhe, _⟩ := rows f (by omega)
   exact ⟨_, Uc hrow (decide_eq_true hq), by show decide (mf.held ≤ 0) = true; rw [hhe]; decide⟩)
  (fun f hf2 he => by omega) (fun f hf2 hf3 => Ye hthin _ _ _ (by omega)) (fun f hf2 hf3 => Of fun y hy => by
   refine Bool.eq_false_iff.2 fun hq => ?_; have h9 := (E7 hy).1; have := (hq2 y hq).2.1
   omega) 48 (Nat.le_refl _)
 rw [← Yf] at hm; obtain ⟨hbad, hlen⟩ := hm; rw [e2]; generalize hL : (Bj u.qs (Az c.p u.who s'.ages) 48).filter (fun y => decide (tkM c.p (-1) y ∧ Il y)) = L at hbad hlen ⊢; rw [List.length_map] at hlen
 have hnn : ∀ y ∈ L, 0 ≤ y.1.held := by
  intro y hy; rw [← hL] at hy; obtain ⟨f, _, _, _, _, _, _, hok2, _⟩ := Lf hok h hk (List.mem_filter.1 hy).1; exact hok2.1.2.2.2.1.1
 obtain ⟨F, hFe⟩ : ∃ F : Nat, c.p.F = (F : Int) := ⟨c.p.F.toNat, by omega⟩
 have hlen2 : 2 * F + 1 ≤ L.length := by
  split at hlen <;> omega
 have hlo : Bx c.p.F (L.map fun y => y.1.held) := by unfold Bx; rw [List.length_map]; omega
 have hcount : F + 1 ≤ (L.map fun y => y.1.held).countP (fun x => decide (x ≤ 0)) := by
  rw [List.countP_map] at hbad; rw [List.countP_map]; have := List.length_eq_countP_add_countP (fun y : M × Int => decide (y.1.held ≤ 0)) (l := L)
  have e : L.countP ((fun s => !decide (s.lo ≤ 0)) ∘ fun y : M × Int => (⟨y.1.held, 0⟩ : Sp)) = L.countP (fun a => decide (¬ (decide (a.1.held ≤ 0) = true))) := by
   congr 1
   funext a
   show (!decide (a.1.held ≤ 0)) = _; cases decide (a.1.held ≤ 0) <;> rfl
  have e2 : L.countP ((fun x => decide (x ≤ 0)) ∘ fun y : M × Int => y.1.held) = L.countP (fun y => decide (y.1.held ≤ 0)) := rfl; omega
 have hle : Dt c.p.F (L.map fun y => y.1.held) ≤ 0 := by
  unfold Dt; rw [if_pos hlo, hFe]; exact Ad2 (by rw [List.length_map]; omega) hcount
 have hge : 0 ≤ Dt c.p.F (L.map fun y => y.1.held) := by
  unfold Dt; rw [if_pos hlo, hFe]; refine Ad1 (by rw [List.length_map]; omega) ?_
  have : (L.map fun y => y.1.held).countP (fun x => decide (x < 0)) = 0 := by
   rw [List.countP_eq_zero]; intro x hx; obtain ⟨y, hy, rfl⟩ := List.mem_map.1 hx; have := hnn y hy; simp only [decide_eq_true_eq]; omega
  omega
 unfold Gl; rw [if_pos hlo]; have e0 : Dt c.p.F (L.map fun y => y.1.held) = 0 := by omega
 rw [e0]
 decide
theorem L8 {c : Cs} {nd b : Nat} (hok : c.p.Ok) {us : List PU} {sd : List M} {s s' : Stp} {t : Int} (h : Hist c nd b us sd s t) {k : Nat} {u : PU} (hk : us[k]? = some u) (hw : ¬ u.who < 16) (hco : ¬ V5 c u.who) {out : List Hd}
  (ho : out.map ma = (Bj u.qs (Az c.p u.who s'.ages) 48).filter (fun y => decide (knM u.es y))) : ¬ E0 c.p out := by
 have hN := hok.N; have hF := hok.F; obtain ⟨us0, t0, h1, h2, h3, h4, h5, h6⟩ := h.last; have hthin := h3.thin h1 hk; have hne := Gk hthin (Az c.p u.who s'.ages) 48 (Nat.le_refl _); obtain ⟨e1, _⟩ := Pz (p := c.p) (Wl hne ho); rw [ho, H9 hok] at e1
 have hnil : Ls c.p (Bj u.qs (Az c.p u.who s'.ages) 48) = [] := by
  unfold Ls; rw [List.filter_eq_nil_iff]; intro y hy hq; obtain ⟨⟨_, a1, a2, a3⟩, _⟩ := of_decide_eq_true hq; obtain ⟨f, _, hf2, _, _, hl, _⟩ := Lf hok h hk hy; have := (Aj3 hok hl).2.2.2; dsimp only at this; exact hco (this (by omega) (by omega))
 rw [hnil] at e1; intro hc; unfold E0 at hc; rw [e1] at hc; have := hc.1; unfold Ja at this; simp only [List.map_nil, List.length_nil] at this; omega
theorem Ym {h : Int} (hh : 0 ≤ h ∧ h ≤ 1073741823) : Dk h = h + 1 := by
 unfold Dk; rw [Tn (by omega) (by decide) (by omega)]; exact Mv (by omega)
theorem K1 (h : Int) : 0 ≤ Dk h ∧ Dk h ≤ 1073741824 := Hs _ _ _ (by decide)
theorem Kt {c : Cs} {nd b : Nat} (hok : c.p.Ok) (hnd : nd ≤ 32) {us : List PU} {sd : List M} {s s' : Stp} {t : Int} (h : Hist c nd b us sd s t) {k : Nat} {u : PU} (hk : us[k]? = some u) {out : List Hd}
  (ho : out.map ma = (Bj u.qs (Az c.p u.who s'.ages) 48).filter (fun y => decide (knM u.es y))) {x : Hd} (hx : x ∈ Cg c.p out) (hu : C6 c.p x.m) :
  ∃ (j : Nat) (v : PU) (m : M) (f : Nat), us[j]? = some v ∧ v.who = (f : Int) ∧ 16 ≤ (f : Int) ∧ ((f : Int), u.who) ∈ Ft c nd ∧ m.from_ = (f : Int) ∧ Says v m ∧ (m, Az c.p u.who s'.ages f) ∈ Bj u.qs (Az c.p u.who s'.ages) 48 ∧
   x.m = { m with slo := (way c.p ⟨m.slo, m.shi⟩ (Az c.p u.who s'.ages f)).lo, shi := (way c.p ⟨m.slo, m.shi⟩ (Az c.p u.who s'.ages f)).hi } := by
 obtain ⟨y, hy, hy2, rfl⟩ := R2.1 hx; have hm : ma y ∈ (Bj u.qs (Az c.p u.who s'.ages) 48).filter (fun y => decide (knM u.es y)) := by rw [← ho]; exact List.mem_map_of_mem hy
 obtain ⟨hm1, hm2⟩ := List.mem_filter.1 hm; have hkn := of_decide_eq_true hm2; have hkind : y.m.kind = 2 := hu.1
 have h16 : 16 ≤ y.m.from_ := by
  rcases hkn with ⟨h1, _⟩ | ⟨_, h2, _⟩
  ·have h1' : y.m.kind = 1 := h1; omega
  ·exact h2
 obtain ⟨f, hf48, hf, hrow, hw, hl, hne, _, hage⟩ := Lf hok h hk hm1; have hf' : y.m.from_ = (f : Int) := hf; obtain ⟨j, hj⟩ := List.getElem?_of_mem hw; obtain ⟨u0, v, m, t1, hv, hvw, hu0w, hmf, honef, hfa, htb, hte, hrow2⟩ := X3 hok hnd h hk (f := f) (j := j) hj hf48 hl (.inl (by omega)) (Az c.p u.who s'.ages f); rw [hrow2, List.mem_singleton] at hrow; obtain ⟨sa, _⟩ := honef.says; have e1 : y.m = m := congrArg Prod.fst hrow; have e2 : y.age = Az c.p u.who s'.ages f := congrArg Prod.snd hrow; refine ⟨j, v, m, f, hv, hvw, by omega, hl, sa.from_.trans hvw, sa, by rw [← hrow]; exact hm1, ?_⟩; obtain ⟨ym, yA, yc, ya⟩ := y; dsimp only at e1 e2; subst e1; subst e2; rfl
theorem Hn {c : Cs} (hok : c.p.Ok) (out : List Hd) (s : Stt) (ticks : Int) (tab : List (Int × Int)) {u' : Stt} (hs : u' = Bm (Ax c.p out s ticks tab)) {t r : Int} (hr : 0 ≤ r ∧ r ≤ 100000000000000000) (ht : -4503599627370496 ≤ t ∧ t ≤ 4503599627370496) (hc : E0 c.p out → Bh (Db c.p.F (Gu c.p out)) t r) (hh : 0 ≤ Gl c.p.F ((G6 c.p out).map Cq) ∧ Gl c.p.F ((G6 c.p out).map Cq) ≤ 1073741824) :
  (E0 c.p out → u'.good = true ∧ u'.hops = 0 ∧ u'.lo = (Db c.p.F (Gu c.p out)).lo ∧ u'.hi = (Db c.p.F (Gu c.p out)).hi ∧ u'.held = Gl c.p.F ((G6 c.p out).map Cq)) ∧
  (¬ E0 c.p out → ∀ x, B2 c.p (Cg c.p out) = some x → u'.good = true ∧ u'.hops = x.m.hops + 1 ∧ u'.lo = x.m.slo ∧ u'.hi = x.m.shi ∧ u'.held = Dk x.m.held) ∧
  (¬ E0 c.p out → B2 c.p (Cg c.p out) = none → u'.good = false ∧ u'.hops = c.p.D + 1) := by
 obtain ⟨q1, q2, q3, q4, q5, _⟩ := Pr c.p out s ticks tab; rw [← hs] at q1 q2 q3 q4 q5; have hD := hok.D; refine ⟨fun hco => ?_, fun hco x hx => ?_, fun hco hx => ?_⟩
 ·have hn : Am c.p out s ticks tab = M2 c.p out s tab := by
   unfold Am K4; rw [if_pos (.inl hco), if_pos hco]
  have htr := hc hco; unfold Bh at htr
  have hf5 : Qj c.p (Am c.p out s ticks tab) := by
   rw [hn]; unfold Qj M2; dsimp only; omega
  obtain ⟨f1, f2, f3, f4, f5⟩ := K5 hok hf5; rw [hn] at f1 f2 f3 f4 f5 q1 q2 q3 q4 q5; exact ⟨q5.trans f5, q4.trans f4, q1.trans f1, q2.trans f2, q3.trans f3⟩
 ·have hfo : O7 c.p out := by unfold O7; rw [hx]; rfl
  have hn : Am c.p out s ticks tab = Ep s x := by
   unfold Am K4 Er; rw [if_pos (.inr hfo), if_neg hco, hx]
  obtain ⟨hmem, hus, _⟩ := (choose_spec c.p (Cg c.p out)).2 x hx; obtain ⟨y, _, _, rfl⟩ := R2.1 hmem; obtain ⟨_, _, h0, h1, h2⟩ := hus; have hr1 : -2305843009213693952 ≤ (Oy c.p y).m.slo := (Ga _).1; have hr2 : (Oy c.p y).m.shi ≤ 2305843009213693952 := (Ga _).2; have hmh := K1 (Oy c.p y).m.held
  have hf5 : Qj c.p (Am c.p out s ticks tab) := by
   rw [hn]; unfold Qj Ep; dsimp only; omega
  obtain ⟨f1, f2, f3, f4, f5⟩ := K5 hok hf5; rw [hn] at f1 f2 f3 f4 f5 q1 q2 q3 q4 q5; exact ⟨q5.trans f5, q4.trans f4, q1.trans f1, q2.trans f2, q3.trans f3⟩
 ·have hfo : ¬ O7 c.p out := by unfold O7; rw [hx]; exact fun h => by cases h
  have hn : Am c.p out s ticks tab = Aj4 c.p s ticks := by
   unfold Am; rw [if_neg (fun h => h.elim hco hfo)]
  rw [hn] at q4 q5; refine ⟨?_, ?_⟩
  ·rw [q5]; unfold Bf Aj4; dsimp only; split <;> rfl
  ·rw [q4]; show Bg (c.p.D + 1) 0 (Bb [c.p.D, 1]) = c.p.D + 1; rw [Tn hD.1 (by decide) (by omega)]; exact Mv (by omega)
def Bn4 (c : Cs) (b : Nat) (us : List PU) (t : Int) : Prop := ∀ (k : Nat) (u : PU), us[k]? = some u → ¬ u.who < 16 → (u.s.good = true → 0 ≤ u.s.hops ∧ u.s.hops ≤ c.p.D) ∧ (u.s.good = false → u.s.hops = c.p.D + 1) ∧ (u.s.good = true → u.s.hops ≤ (b : Int) - 5 → Bh ⟨u.s.lo, u.s.hi⟩ t (rN c.p u.s.hops) ∧ 0 ≤ u.s.held ∧ u.s.held ≤ u.s.hops + 1)
theorem Bt5 {p : Par} (hp : p.Ok) {h : Int} (hh : 0 ≤ h ∧ h ≤ 17) : 0 ≤ rN p h ∧ rN p h ≤ 23089744183296 ∧ rN p (h + 1) = rN p h + I9 p := by
 have h1 := He hp; have h2 := O8 hp; have e1 : 0 ≤ (h + 1) * I9 p := Int.mul_nonneg (by omega) h1.1; have e2 : (h + 1) * I9 p ≤ 18 * 1099511627776 := Int.mul_le_mul (by omega) h1.2 h1.1 (by decide); unfold rN; refine ⟨by omega, by omega, ?_⟩; rw [Int.add_mul (h + 1) 1, Int.one_mul]; omega
theorem Ug {c : Cs} {nd b : Nat} (hok : c.p.Ok) (hnd : nd ≤ 32) (hws : (Ai c.p.N.toNat nd).length ≤ 15) {us : List PU} {sd : List M} {s : Stp} {t : Int} (h : Hist c nd b us sd s t) : 5 ≤ b → Bn4 c b us t := by
  induction h with
  | one => intro hb; omega
  | @next b us0 us sd0 sd s0 s t h0 hfit hbe hf ht ih =>
    intro hb k u' hk' hw'; have hB := hok.Beat; have hD := hok.D; have hTB := ht; unfold TB at hTB; have hgN := O8 hok; have hhN := He hok; obtain ⟨u, hu, hwu⟩ := D7 h0.whos (Dc (B8 hbe h0.whos) hk'); obtain ⟨u2, m, hu2, _, hone, _⟩ := hbe.one k u hu; rw [hk'] at hu2; injection hu2 with hu2; subst hu2; have hw : ¬ u.who < 16 := by rw [hwu]; exact hw'
    obtain ⟨out, tab, ho, hs, _⟩ := Lk hok hnd hws (by omega) h0 hfit hbe hu hone hw
    by_cases hco : V5 c u.who
    · obtain ⟨hc1, hc2, hc3, hc4⟩ := Nx hok hnd (by omega) h0 hf ht hu hw hco ho; obtain ⟨g1, g2, g3, g4, g5⟩ := (Hn hok out u.s _ tab hs (by omega) (by omega) (fun _ => hc2) ⟨hc3, by omega⟩).1 hc1; refine ⟨fun _ => by omega, (fun hg => by rw [g1] at hg; cases hg), fun _ _ => ?_⟩; have e : rN c.p u'.s.hops = gN c.p + I9 c.p := by rw [g2]; unfold rN; omega
      rw [e, g3, g4, g5, g2]; exact ⟨hc2, hc3, by omega⟩
    · have hnc := L8 hok h0 hu hw hco ho
      have hhv : 0 ≤ Gl c.p.F ((G6 c.p out).map Cq) ∧ Gl c.p.F ((G6 c.p out).map Cq) ≤ 1073741824 := by
        unfold Gl; split
        · exact K1 _
        · decide
      obtain ⟨_, w2, w3⟩ := Hn hok out u.s _ tab hs (t := 0) (r := 0) (by decide) (by decide) (fun hx => absurd hx hnc) hhv
      cases hch : B2 c.p (Cg c.p out) with
      | none =>
        obtain ⟨g1, g2⟩ := w3 hnc hch; exact ⟨(fun hg => by rw [g1] at hg; cases hg), fun _ => g2, (fun hg => by rw [g1] at hg; cases hg)⟩
      | some x =>
        obtain ⟨g1, g2, g3, g4, g5⟩ := w2 hnc x hch; obtain ⟨hmem, hus, _⟩ := (choose_spec c.p (Cg c.p out)).2 x hch; obtain ⟨j, v, mv, f, hv, hvw, hf16, hl, hfr, sa, _, hxm⟩ := Kt hok hnd h0 hu ho hmem hus; have hxh : x.m.hops = v.s.hops := by rw [hxm]; exact sa.hops
        have hxg : v.s.good = true := by rw [← sa.good]; have := hus.2.1; rw [hxm] at this; exact this
        have h0x := hus.2.2.1; have h1x := hus.2.2.2.1; refine ⟨fun _ => by omega, (fun hg => by rw [g1] at hg; cases hg), fun _ hle => ?_⟩; have hb5 : 5 ≤ b := by omega
        obtain ⟨_, _, tr⟩ := ih hb5 j v hv (by omega); obtain ⟨t1, t2, t3⟩ := tr hxg (by omega); obtain ⟨r1, r2, r3⟩ := Bt5 hok (h := v.s.hops) (by omega); have hway := S0 hok (by omega) (by omega) t1 (hf.age hok u.who f); have e1 : u'.s.hops = v.s.hops + 1 := by omega
        have e2 : u'.s.held = v.s.held + 1 := by
          rw [g5, hxm]; show Dk mv.held = _; rw [sa.held]; exact Ym (by omega)
        refine ⟨?_, by omega, by omega⟩; rw [e1, r3, g3, g4, hxm]; dsimp only; rw [sa.slo, sa.shi]; exact hway
theorem T7 {qs : Qs} {age : Nat → Int} {f : Nat} (hf : f < 48) {y : M × Int} (h : y ∈ Eh f (age f) (qs.getD f [])) : y ∈ Bj qs age 48 := by
 unfold Bj; exact List.mem_flatMap.2 ⟨f, List.mem_range.2 hf, h⟩
theorem Ba3 {c : Cs} {nd b : Nat} (hok : c.p.Ok) (hnd : nd ≤ 32) (hws : (Ai c.p.N.toNat nd).length ≤ 15) {us : List PU} {sd : List M} {s : Stp} {t : Int} (h : Hist c nd b us sd s t) (hb : 5 ≤ b) {k : Nat} {u' : PU} (hk' : us[k]? = some u') (hw' : ¬ u'.who < 16) {f j : Nat} (hj : (Ai c.p.N.toNat nd)[j]? = some (f : Int)) (hf : f < 48) (hf16 : 16 ≤ (f : Int)) (hl : ((f : Int), u'.who) ∈ Ft c nd) : 0 < (Cf u'.es (f : Int)).1 := by
  cases h with
  | one => omega
  | @next b us0 us sd0 sd s0 s t h0 hfit hbe hf0 ht =>
    obtain ⟨u, hu, hwu⟩ := D7 h0.whos (Dc (B8 hbe h0.whos) hk'); obtain ⟨u2, m, hu2, _, hone, _⟩ := hbe.one k u hu; rw [hk'] at hu2; injection hu2 with hu2; subst hu2; obtain ⟨out, tab, _, _, hcnt⟩ := Lk hok hnd hws (by omega) h0 hfit hbe hu hone (by rw [hwu]; exact hw'); obtain ⟨u0, v, mf, t1, hv, hvw, hu0w, hmf, honef, _, _, _, hrow⟩ := X3 hok hnd h0 hu hj hf (by rw [hwu]; exact hl) (.inl hf16) (Az c.p u.who s.ages f); have := hcnt (mf, Az c.p u.who s.ages f) (T7 hf (by rw [hrow]; exact .head _)); obtain ⟨sa, _⟩ := honef.says; rw [show (mf, Az c.p u.who s.ages f).1.from_ = (f : Int) from sa.from_.trans hvw] at this; exact this
theorem Bh.mono {s : Sp} {t g g' : Int} (h : Bh s t g) (hg : g ≤ g') : Bh s t g' := by
 unfold Bh at h ⊢; omega
end
section
open Tryz Go.RowKit YtaanjifekgfemaaGreat.K YtaanjifekgfemaaGreat.W YtaanjifekgfemaaGreat.LN
attribute [local irreducible] Bg Ak Bb sub neg mag Da mul Dy
theorem Bo7 : CF 14 := fun _ _ => by simp [go_sem]
theorem Pm : CF 15 := fun _ _ => by simp [go_sem]
theorem De (a b c d : Int) (w : World) : (Op.equalIn 10000 53 (.agg #[.int .i64 a, .int .i64 b]) (.agg #[.int .i64 c, .int .i64 d])).run Tryz.prog w = .ok (decide (a = c ∧ b = d)) w :=
 Al0 underlying53 (by kernel_rfl) (by decide) (by decide) rfl rfl underlying3 underlying3 (fun _ => sizeOf3 _) (fun _ => sizeOf3 _) (fun _ => isAgg3 _) (fun _ => isAgg3 _) a b c d w
theorem Df : Tryz.prog.eqGuardType Tryz.prog.depth 53 = false := by kernel_rfl
structure Lst (α : Type) where
  l : List α
  A : Option Addr
  cap : Nat
def fgD (c : Cs) (s : Lst Sd) (f : Lst Li) : Cs := { c with states := s.l, frames := f.l, a5 := (s.A, s.cap), a6 := (f.A, f.cap) }
set_option maxHeartbeats 8000000 in
theorem Xr (tbl : List Int) (htl : tbl.length = 20) (c : Cs) (sl : Lst Sd) (fl : Lst Li) (beats : Int) (hmath : ∀ (nd b : Nat) (x y : Wd) (n l n' l' : Nat), c.Small beats → c.nodes = (nd : Int) → (settle c.p).toNat ≤ b → b ≤ 200 → RunT c nd b x n l → RunT (fgD c sl fl) nd b y n' l' → Bfq c.p x y) (w0 w : World) (F0 : List Nat) (L G : List Res) (I : St w0 F0 w L G) (hin : c.In G) (hind : (fgD c sl fl).In G) (hrn : Rds [] G (.slice none 0 0) 0 []) (hpw : Gw tbl ∈ G) :
  Calls Tryz.prog 4 #[.agg (csC c).toArray, .slice sl.A sl.l.length sl.cap, .slice fl.A fl.l.length fl.cap, .int .i64 beats] w fun e w' => e = .returned (.bool true) ∧ ∃ G', (∀ r ∈ G, r ∈ G') ∧ St w0 F0 w' L G' := by
 refine W.func func4 O ntmps4 O<|Wh O<|Ow O (X.boxA I O fun p4 w4 I => I.g O O<|Od O<|Wq O<|Wh O<|Ow O (X.ret cf6 (Am3 tbl htl _ _ _ _ _ I hrn hpw) O fun _ I => I.q O O<|Od O<|Wu O O<|Wk O<|Wh O<|I.y O (Y.loadA 0 isAgg30 sizeOf30 O O O O)<|Ow O (X.allocA I zeroValue30 fun p9 w9 I => Ow O (X.storeS I 0 sizeOf30 O O O O O (lZ O) O O fun _ I => Ds O O<|I.s O O<|I.s O O<|I.f Vs O O<|Ow O (X.storeV I 0 (.slice _ _ _) sizeOf26 O O O O (lZ O) O O fun _ I => I.f Vt O O<|Ow O (X.storeV I 0 (.slice _ _ _) sizeOf27 O O O O (lZ O) O O fun _ I => Od O<|Wq O<|Wh O<|I.y O (Y.loadA 1 isAgg30 sizeOf30 O O O O)<|I.u O O<|Oc O cf7 O ?_)))))); refine Ab (T5 c beats _ _ _ _ _ I hin) O ?_; clear I; rintro e w26 ⟨b26, rfl, hgr1, I⟩; have hb26 : b26 = decide (b26 = true) := (by cases b26 <;> rfl); refine ⟨_, O, ?_⟩; refine I.b O O ?_; cases b26
 ·replace hb26 := dF hb26; refine I.y O (Y.loadA 0 isAgg30 sizeOf30 O O O O)<|I.u O O<|Oc O cf7 O ?_; refine Ab (T5 (fgD c sl fl) beats _ _ _ _ _ I hind) O ?_; clear I; rintro e w30 ⟨b30, rfl, hgr2, I⟩; have hb30 : b30 = decide (b30 = true) := (by cases b30 <;> rfl); refine ⟨_, O, ?_⟩; refine I.k O O O<|Od O<|?_; cases b30
  ·replace hb30 := dF hb30; refine Wu O O<|Wk O<|Wq O<|?_; have hs1 := hgr1 rfl; have hs2 := hgr2 rfl; obtain ⟨nd, hnd⟩ : ∃ nd : Nat, c.nodes = (nd : Int) := ⟨c.nodes.toNat, by have := hs1.nodes; omega⟩; have hok := hs1.ok; have hn6 := Sq hs1 hnd; have hnd2 : nd ≤ 32 := by omega
   have hN1 := hok.N; have hbe := hs1.beats; have hse := hs1.settle; have hs0 := Ut hok; refine W.drawn rfl (by kernel_rfl) (Ctx _ _ ([Aa p9 (csC (fgD c sl fl)) 30, Aa p4 (csC c) 30]) (G)) [] (T0 [0,2] (T1 [1,3] (T0 [4,5] .nil))) rfl (by kernel_rfl) ((I.drew.sub (by repeat first|exact Q2|refine .cons _ ?_)).facts (by first | exact fun r h => h | exact hG1 | exact hG2)).ctx ?_; replace I := I.drew; generalize World.drew _ = wd at I ⊢; refine Dq rfl ((I.sub (by repeat first|exact Q2|refine .cons _ ?_)).facts (by first | exact fun r h => h | exact hG1 | exact hG2)).ctx (Y.loadA 1 isAgg30 sizeOf30 O O O O) ?_; refine Dq rfl ((I.sub (by repeat first|exact Q2|refine .cons _ ?_)).facts (by first | exact fun r h => h | exact hG1 | exact hG2)).ctx (Y.loadA 0 isAgg30 sizeOf30 O O O O) ?_; refine Dw O (X.call Bo7 O ?_); refine Ab (Pg tbl htl c beats hs1 nd hnd _ _ _ _ _ I hin hrn hpw) O ?_; clear I; rintro e w33 ⟨rb1, wb1, x1, n1, l1, G1, rfl, hrun1, hx1, hG1, I⟩; replace I := I.perm (As7 _ _ _ _ _ _ _); refine ⟨_, rfl, ⟨((I.sub (by repeat first|exact Q2|refine .cons _ ?_)).facts (by first | exact fun r h => h | exact hG1 | exact hG2)).ctx, ?_⟩⟩; refine Dw O (X.call Bo7 O ?_); refine Ab (Pg tbl htl (fgD c sl fl) beats hs2 nd hnd _ _ _ _ _ I (hind.moreC hG1) (hrn.moreG hG1) (hG1 _ hpw)) O ?_; clear I; rintro e w35 ⟨rb2, wb2, x2, n2, l2, G2, rfl, hrun2, hx2, hG2', I⟩; have hG2 : ∀ r ∈ G, r ∈ G2 := fun r hr => hG2' r (hG1 r hr); replace I := I.perm (As8 _ _ _ _ x1 x2 c.p wb1 wb2 L); refine ⟨_, rfl, ⟨((I.sub (by repeat first|exact Q2|refine .cons _ ?_)).facts (by first | exact fun r h => h | exact hG1 | exact hG2)).ctx, ?_⟩⟩; refine Dq rfl ((I.sub (by repeat first|exact Q2|refine .cons _ ?_)).facts (by first | exact fun r h => h | exact hG1 | exact hG2)).ctx (Y.assignP O) ?_; refine Dq rfl ((I.sub (by repeat first|exact Q2|refine .cons _ ?_)).facts (by first | exact fun r h => h | exact hG1 | exact hG2)).ctx (Y.assignP O) ?_; refine Dd<|Wq O<|Wh O<|I.p O O<|I.y O (Y.isNil underlying34 O O)<|I.b O O<|I.p O O<|I.y O (Y.isNil underlying34 O O)<|I.k O O O<|Od O<|Wu O O<|Wk O<|Wq O<|Wh O<|I.a O O<|Od O<|Wb O<|?_; refine W.loop (γ := Nat × Wd × Nat × Nat × Wd × Nat × Nat × List Res) [(3, .int _ _), (10, .pointer _), (11, .pointer _)] (fun x_ => [(12, .int .i64 (x_.1 : Int))]) (fun x_ w => ((x_.1 : Int) ≤ beats + 1 ∧ RunT c nd ((settle c.p).toNat + x_.1) x_.2.1 x_.2.2.1 x_.2.2.2.1 ∧ RunT (fgD c sl fl) nd ((settle c.p).toNat + x_.1) x_.2.2.2.2.1 x_.2.2.2.2.2.1 x_.2.2.2.2.2.2.1 ∧ x_.2.1.Ok c.p nd x_.2.2.2.2.2.2.2 ∧ x_.2.2.2.2.1.Ok c.p nd x_.2.2.2.2.2.2.2 ∧ ∀ r ∈ G, r ∈ x_.2.2.2.2.2.2.2) ∧ St w0 F0 w (Aa p9 (csC (fgD c sl fl)) 30 :: Aa p4 (csC c) 30 :: Aa rb1 (Fy c wb1 (x_.2.2.1) (x_.2.2.2.1)) 47 :: Aa rb2 (Fy (fgD c sl fl) wb2 (x_.2.2.2.2.2.1) (x_.2.2.2.2.2.2.1)) 47 :: x_.2.2.2.2.1.res c.p wb2 (x_.2.1.res c.p wb1 L)) x_.2.2.2.2.2.2.2) (fun x_ => (beats + 1).toNat - x_.1) ((0, x1, n1, l1, x2, n2, l2, G2)) O ⟨O, O, O, trivial⟩ ?_ ?_ ?_
   ·exact ⟨O, trivial⟩
   ·exact ⟨⟨by dsimp only; omega, hrun1, hrun2, hx1.mono hG2', hx2, hG2⟩, I⟩
   ·clear I; rintro ⟨b, x1, n1, l1, x2, n2, l2, G1⟩ j w11 ⟨⟨hb, hrun1, hrun2, hx1, hx2, hG1⟩, I⟩; dsimp only at hb hrun1 hrun2 hx1 hx2 hG1 I; refine Wq O<|Wh O<|I.u O O<|I.u O O<|I.X O O O (fun b44 hb44 => Od O<|?_); cases b44
    ·replace hb44 := dF hb44; refine Wu O O<|W.exit O<|Wh O<|I.g O O<|Od O<|We O<|⟨_, Ac.one results4 O, ?_⟩; exact ⟨O, G1, hG1, (I.dr 4).sub (A44 _ _ _ _ _ _)⟩
    ·replace hb44 := dT hb44; refine Wt O O<|Wk O<|Wq O<|Wb O<|Wq O<|Wh O<|I.p O O<|Oc O Bnq O ?_; refine Ab (U2 rb1 c wb1 n1 l1 hok nd hnd hnd2 _ _ _ _ _ I.up_2) O ?_; clear I; rintro e w48 ⟨A48, c48, rfl, I⟩; replace I := I.up_1.dn3; refine ⟨_, O, ?_⟩; refine I.y O (Y.lenS underlying24 O)<|I.u O O<|Od O<|Wb O<|?_; refine W.loop (γ := Nat) [(3, .int _ _), (10, .pointer _), (11, .pointer _), (12, .int _ _), (48, .slice _ _ _), (49, .int _ _)] (fun i => [(50, .int .i64 (i : Int))]) (fun i w => i ≤ c.p.N.toNat + nd ∧ St w0 F0 w (Af (.slice A48 (c.p.N.toNat + nd) c48) 3 1 (c.p.N.toNat + nd) (ivs ((Ai c.p.N.toNat nd))) :: Aa p9 (csC (fgD c sl fl)) 30 :: Aa p4 (csC c) 30 :: Aa rb1 (Fy c wb1 (n1) (l1)) 47 :: Aa rb2 (Fy (fgD c sl fl) wb2 (n2) (l2)) 47 :: x2.res c.p wb2 (x1.res c.p wb1 L)) G1) (fun i => c.p.N.toNat + nd - i) (0) O ⟨O, O, O, O, O, O, trivial⟩ ?_ ?_ ?_
     ·exact ⟨O, trivial⟩
     ·exact ⟨Nat.zero_le _, I⟩
     ·clear I; rintro i j w14 ⟨hi, I⟩; refine Wh O<|I.v O O O (fun b51 hb51 => Od O<|Wq O<|?_); cases b51
      ·replace hb51 := dF hb51; refine Wu O O<|W.exit O<|Wq O<|?_; replace I := I.drop; refine Wr O<|I.p O O<|Oc O Bj2 O ?_; refine Ab (Oo tbl htl rb1 c wb1 n1 l1 nd hnd hn6 hok hs1.N hs1.noise hs1.lies (by have := (hrun1.nl hs1.N hn6).1; omega) (by have := (hrun1.nl hs1.N hn6).2; omega) x1 (Ai c.p.N.toNat nd) rfl (by rw [hrun1.links]; exact Nat.le_trans (Ry hs1) (by decide)) hrun1.time_in _ _ _ _ _ (I.perm (Uq _ _ _ _ x1 x2 c.p wb1 wb2 L)) hx1 (hin.moreC hG1) (hrn.moreG hG1) (hG1 _ hpw)) O ?_; clear I; rintro e w109 ⟨stp1, y1, G3, G2, rfl, hof1, hst9, hy1, hG2, I⟩; replace I := I.perm (Uq _ _ _ _ y1 x2 c.p wb1 wb2 L).symm; refine ⟨_, O, ?_⟩; refine Od O<|Wr O<|I.p O O<|Oc O Bj2 O ?_; refine Ab (Oo tbl htl rb2 (fgD c sl fl) wb2 n2 l2 nd hnd hn6 hok hs2.N hs2.noise hs2.lies (by have := (hrun2.nl hs2.N hn6).1; omega) (by have := (hrun2.nl hs2.N hn6).2; omega) x2 (Ai c.p.N.toNat nd) rfl (by rw [hrun2.links]; exact Nat.le_trans (Ry hs2) (by decide)) hrun2.time_in _ _ _ _ _ (I.perm (Ou _ _ _ _ y1 x2 c.p wb1 wb2 L)) (hx2.mono hG2) (hind.moreC (fun r h => hG2 r (hG1 r h))) (hrn.moreG (fun r h => hG2 r (hG1 r h))) (hG2 _ (hG1 _ hpw))) O ?_; clear I; rintro e w111 ⟨stp2, y2, G5, G4, rfl, hof2, hst8, hy2, hG4, I⟩; replace I := I.perm (Ou _ _ _ _ y1 y2 c.p wb1 wb2 L).symm; refine ⟨_, O, ?_⟩; refine Od O<|Wr O<|I.u O O<|I.j O O O (by omega)<|I.a O O<|Od O<|?_; exact ⟨(b + 1, y1, _, _, y2, _, _, G4), ⟨O, trivial⟩, ⟨O, O, O, trivial⟩, ⟨⟨by dsimp only; omega, RunT.step hrun1 hx1 hy1 hof1 (hst9.reG hG2), RunT.step hrun2 (hx2.mono hG2) hy2 hof2 (hst8.reG hG4), hy1.mono hG4, hy2, fun r hr => hG4 r (hG2 r (hG1 r hr))⟩, I⟩, by dsimp only; omega⟩
      ·replace hb51 := dT hb51; refine Wt O O<|Wk O<|Wq O<|Wb O<|Wq O<|?_; have hil : i < c.p.N.toNat + nd := by omega
       have hml1 := hx1.len; have hml2 := hx2.len; obtain ⟨m1, hm1⟩ : ∃ m, x1.ms[i]? = some m := ⟨_, List.getElem?_eq_getElem (by omega)⟩; obtain ⟨m2, hm2⟩ : ∃ m, x2.ms[i]? = some m := ⟨_, List.getElem?_eq_getElem (by omega)⟩
       have hwi : ((Ai c.p.N.toNat nd)).getD i 0 = m1.u.who := by
        rw [List.getD_eq_getElem?_getD, ← hx1.who]; unfold E8; rw [List.getElem?_map, hm1]; rfl
       have hwho : m2.u.who = m1.u.who := by
        rw [← hwi, List.getD_eq_getElem?_getD, show (Ai c.p.N.toNat nd) = E8 x2.ms from hx2.who.symm]; unfold E8; rw [List.getElem?_map, hm2]; rfl
       have hsame := hmath nd ((settle c.p).toNat + b) x1 x2 n1 l1 n2 l2 hs1 hnd (Nat.le_add_right _ _) (by omega) hrun1 hrun2 i m1 m2 hm1 hm2; obtain ⟨Tf, Tf', rf, rf', L', hpf⟩ := Ae7 hm1 hm2 c.p wb1 wb2 L; refine Wr rfl<|I.y rfl (Y.indexAddr underlying24 sizeOf3 rfl rfl ((Rds.sl (Rds.rowL 0 (by rfl)) I).ne (by unfold ivs; rw [List.length_map, Eu]; omega)) (by omega))<|?_; refine I.y rfl (Y.cast (Y.loadSl isAgg3 rfl (Rds.rowL 0 rfl) (Ef (l := (Ai c.p.N.toNat nd)) (k := i) (by rw [Eu]; omega))) (congrArg (Value.int .i64) hwi)) ?_; refine I.a O O<|Od O<|Wq O<|?_; have hpx : (Af (.slice A48 (c.p.N.toNat + nd) c48) 3 1 (c.p.N.toNat + nd) (ivs ((Ai c.p.N.toNat nd))) :: Aa p9 (csC (fgD c sl fl)) 30 :: Aa p4 (csC c) 30 :: Aa rb1 (Fy c wb1 (n1) (l1)) 47 :: Aa rb2 (Fy (fgD c sl fl) wb2 (n2) (l2)) 47 :: x2.res c.p wb2 (x1.res c.p wb1 L)).Perm (frR m1.fb Tf c.p m1.u.s m1.A m1.cap rf :: frR m2.fb Tf' c.p m2.u.s m2.A m2.cap rf' :: Af (.slice A48 (c.p.N.toNat + nd) c48) 3 1 (c.p.N.toNat + nd) (ivs ((Ai c.p.N.toNat nd))) :: Aa p9 (csC (fgD c sl fl)) 30 :: Aa p4 (csC c) 30 :: Aa rb1 (Fy c wb1 (n1) (l1)) 47 :: Aa rb2 (Fy (fgD c sl fl) wb2 (n2) (l2)) 47 :: L') := Xt (pre := [_, _, _, _, _]) hpf; replace I := I.perm hpx; refine I.dv [] (T0 [0,1,2,3,4,9,10,11,12,13] (.alt 5 (T0 [6,7,8] (.alt 14 (T0 [15,16,17] (.alt 18 (T1 [19,20,21] .nil) (T1 [19,18,20,21] .nil))) (.alt 18 (.alt 14 (T0 [15,16,17] (T1 [19,20,21] .nil)) (T1 [19,14] (T0 [15,16,17] (T1 [20,21] .nil)))) (.op 19 1 (.alt 14 (T0 [15,16,17] (T1 [18,20,21] .nil)) (T1 [18,14] (T0 [15,16,17] (T1 [20,21] .nil)))))))) (.alt 18 (.alt 5 (T0 [6,7,8] (.alt 14 (T0 [15,16,17] (T1 [19,20,21] .nil)) (T1 [19,14] (T0 [15,16,17] (T1 [20,21] .nil))))) (T1 [19,5] (T0 [6,7,8] (.op 14 1 (T0 [15,16,17] (T1 [20,21] .nil)))))) (.op 19 1 (.alt 5 (T0 [6,7,8] (.alt 14 (T0 [15,16,17] (T1 [18,20,21] .nil)) (T1 [18,14] (T0 [15,16,17] (T1 [20,21] .nil))))) (T1 [18,5] (T0 [6,7,8] (.op 14 1 (T0 [15,16,17] (T1 [20,21] .nil)))))))))) O (by kernel_rfl) O (by kernel_rfl) fun wd I => ?_; refine I.zp O O<|I.zt O O<|I.zf Vv O O<|I.z O (Y.load 5 isAgg45 O O O)<|I.zu O O<|I.zp O O<|I.zt O O<|I.zf Vv O O<|I.z O (Y.load 6 isAgg45 O O O)<|I.zu O O<|?_; refine Drw.alts (Alts.more ?_ (Alts.more ?_ (Alts.one ?_)))
       ·refine One.ww O (X.call Kf O ?_); refine Ab (C8 m1.u.who wb1 c.p hok nd hnd2 x1 _ _ _ _ _ ((I.perm hpx.symm).perm (Ec [_, _, _, _, _] x1 x2 c.p wb1 wb2 L)) hx1 i m1 hm1 O) O ?_; clear I; rintro e w59 ⟨rfl, I⟩; replace I := (I.perm (Ec [_, _, _, _, _] x1 x2 c.p wb1 wb2 L).symm).perm hpx; refine ⟨_, O, ⟨I.ctx, ?_⟩⟩; refine I.zt O O<|I.zf Be O O<|I.z O (Y.loadA 0 isAgg57 sizeOf57 O O O O)<|?_; refine Drw.alts (Alts.more ?_ (Alts.more ?_ (Alts.one ?_)))
        ·refine One.ww O (X.call Kf O ?_); refine Ab (C8 m1.u.who wb2 c.p hok nd hnd2 x2 _ _ _ _ _ ((I.perm hpx.symm).perm (Bv [_, _, _, _, _] x2 c.p wb2 (x1.res c.p wb1 L))) hx2 i m2 hm2 hwho) O ?_; clear I; rintro e w68 ⟨rfl, I⟩; replace I := (I.perm (Bv [_, _, _, _, _] x2 c.p wb2 (x1.res c.p wb1 L)).symm).perm hpx; refine ⟨_, O, ⟨I.ctx, ?_⟩⟩; refine I.zt O O<|I.zf Be O O<|I.z O (Y.loadA 1 isAgg57 sizeOf57 O O O O)<|?_; refine Drw.alts (Alts.more ?_ (Alts.one ?_))
         ·refine One.ww O (X.allocA I zeroValue57 fun p15 w15 I => ⟨(I.cx 1), Dw O (X.allocA I zeroValue57 fun p16 w16 I => ⟨(I.cx 2), Dw O (X.storeS I 1 sizeOf57 O O O O O (lZ O) O O fun w16_20 I => ⟨(I.cx 2), Dw O (X.storeS I 0 sizeOf57 O O O O O (lZ O) O O fun w16_21 I => ⟨(I.cx 2), Dd<|Wh O<|I.p O O<|I.u O O<|Oc O Pm O ?_⟩)⟩)⟩)⟩); refine Ab (Cv rb1 c wb1 n1 l1 m1.u.who hok _ _ _ _ _ I.up_7) O ?_; clear I; rintro e w74 ⟨b74, rfl, hb74, I⟩; replace I := I.dn7; refine ⟨_, O, ?_⟩; refine I.b O O ?_; cases b74
          ·replace hb74 := dF hb74; refine On O<|On O<|On O<|On O<|On O<|On O<|On O<|On O<|On O<|On O<|On O<|On O<|On O<|On O<|On O<|On O<|On O<|On O<|On O<|On O<|On O<|On O<|On O<|On O<|On O<|On O<|On O<|On O<|On O<|On O<|I.k O O O<|Od O<|Wu O O<|Wk O<|Wr O<|I.j O O O (by omega)<|I.u O O<|Od O<|?_; have hst2 := (I.dr 2).perm hpx.symm; exact ⟨i + 1, ⟨O, trivial⟩, ⟨O, O, O, O, O, O, trivial⟩, ⟨by omega, hst2⟩, by omega⟩
          ·replace hb74 := dT hb74; refine I.f B3 O O<|I.l 1 O O O O<|I.f B3 O O<|I.l 0 O O O O<|I.yb O (Y.neq O O) (fun b80 hb80 => I.b O O<|?_); cases b80
           ·replace hb80 := dF hb80; refine I.f Bl O O<|I.y O (Y.load 1 isAgg4 O O O)<|I.f Bl O O<|I.y O (Y.load 0 isAgg4 O O O)<|I.yb O (Y.neB underlying4 O O) (fun b86 hb86 => I.k O O O<|I.b O O<|?_); cases b86
            ·replace hb86 := dF hb86; refine I.f Bl O O<|I.yb O (Y.cast (Y.load 1 isAgg4 O O O) (E5 _)) (fun b90 hb90 => I.b O O<|?_); cases b90
             ·replace hb90 := dF hb90; refine On O<|On O<|On O<|On O<|On O<|On O<|On O<|On O<|On O<|On O<|On O<|On O<|I.k O O O<|I.k O O O<|I.k O O O<|Od O<|Wu O O<|Wk O<|Wr O<|I.j O O O (by omega)<|I.u O O<|Od O<|?_; have hst2 := (I.dr 2).perm hpx.symm; exact ⟨i + 1, ⟨O, trivial⟩, ⟨O, O, O, O, O, O, trivial⟩, ⟨by omega, hst2⟩, by omega⟩
             ·replace hb90 := dT hb90; refine I.f Br O O<|I.y O (Y.loadA 1 isAgg53 sizeOf53 O O O O)<|I.f Br O O<|I.y O (Y.loadA 0 isAgg53 sizeOf53 O O O O)<|I.yb O (Y.ne2 Df De O O) (fun b96 hb96 => I.b O O<|?_); cases b96
              ·replace hb96 := dF hb96; refine I.f Bt O O<|I.l 1 O O O O<|I.f Bt O O<|I.l 0 O O O O<|I.yb O (Y.neq O O) (fun b102 hb102 => I.k O O O<|I.k O O O<|I.k O O O<|I.k O O O<|Od O<|?_); cases b102
               ·replace hb102 := dF hb102; refine Wu O O<|Wk O<|Wr O<|I.j O O O (by omega)<|I.u O O<|Od O<|?_; have hst2 := (I.dr 2).perm hpx.symm; exact ⟨i + 1, ⟨O, trivial⟩, ⟨O, O, O, O, O, O, trivial⟩, ⟨by omega, hst2⟩, by omega⟩
               ·replace hb102 := dT hb102; exact absurd ((hsame hb74).2.2 hb90).2 hb102
              ·replace hb96 := dT hb96; exact absurd ((hsame hb74).2.2 hb90).1 hb96
            ·replace hb86 := dT hb86; exact absurd (hsame hb74).2.1 hb86
           ·replace hb80 := dT hb80; exact absurd (hsame hb74).1 hb80
         ·refine One.ww O (X.allocA I zeroValue57 fun p16 w16 I => ⟨(I.cx 1), Dw O (X.allocA I zeroValue57 fun p15 w15 I => ⟨(I.cx 2), Dw O (X.storeS I 0 sizeOf57 O O O O O (lZ O) O O fun w16_20 I => ⟨(I.cx 2), Dw O (X.storeS I 1 sizeOf57 O O O O O (lZ O) O O fun w16_21 I => ⟨(I.cx 2), Dd<|Wh O<|I.p O O<|I.u O O<|Oc O Pm O ?_⟩)⟩)⟩)⟩); refine Ab (Cv rb1 c wb1 n1 l1 m1.u.who hok _ _ _ _ _ I.up_7) O ?_; clear I; rintro e w74 ⟨b74, rfl, hb74, I⟩; replace I := I.dn7; refine ⟨_, O, ?_⟩; refine I.b O O ?_; cases b74
          ·replace hb74 := dF hb74; refine On O<|On O<|On O<|On O<|On O<|On O<|On O<|On O<|On O<|On O<|On O<|On O<|On O<|On O<|On O<|On O<|On O<|On O<|On O<|On O<|On O<|On O<|On O<|On O<|On O<|On O<|On O<|On O<|On O<|On O<|I.k O O O<|Od O<|Wu O O<|Wk O<|Wr O<|I.j O O O (by omega)<|I.u O O<|Od O<|?_; have hst2 := (I.dr 2).perm hpx.symm; exact ⟨i + 1, ⟨O, trivial⟩, ⟨O, O, O, O, O, O, trivial⟩, ⟨by omega, hst2⟩, by omega⟩
          ·replace hb74 := dT hb74; refine I.f B3 O O<|I.l 0 O O O O<|I.f B3 O O<|I.l 1 O O O O<|I.yb O (Y.neq O O) (fun b80 hb80 => I.b O O<|?_); cases b80
           ·replace hb80 := dF hb80; refine I.f Bl O O<|I.y O (Y.load 0 isAgg4 O O O)<|I.f Bl O O<|I.y O (Y.load 1 isAgg4 O O O)<|I.yb O (Y.neB underlying4 O O) (fun b86 hb86 => I.k O O O<|I.b O O<|?_); cases b86
            ·replace hb86 := dF hb86; refine I.f Bl O O<|I.yb O (Y.cast (Y.load 0 isAgg4 O O O) (E5 _)) (fun b90 hb90 => I.b O O<|?_); cases b90
             ·replace hb90 := dF hb90; refine On O<|On O<|On O<|On O<|On O<|On O<|On O<|On O<|On O<|On O<|On O<|On O<|I.k O O O<|I.k O O O<|I.k O O O<|Od O<|Wu O O<|Wk O<|Wr O<|I.j O O O (by omega)<|I.u O O<|Od O<|?_; have hst2 := (I.dr 2).perm hpx.symm; exact ⟨i + 1, ⟨O, trivial⟩, ⟨O, O, O, O, O, O, trivial⟩, ⟨by omega, hst2⟩, by omega⟩
             ·replace hb90 := dT hb90; refine I.f Br O O<|I.y O (Y.loadA 0 isAgg53 sizeOf53 O O O O)<|I.f Br O O<|I.y O (Y.loadA 1 isAgg53 sizeOf53 O O O O)<|I.yb O (Y.ne2 Df De O O) (fun b96 hb96 => I.b O O<|?_); cases b96
              ·replace hb96 := dF hb96; refine I.f Bt O O<|I.l 0 O O O O<|I.f Bt O O<|I.l 1 O O O O<|I.yb O (Y.neq O O) (fun b102 hb102 => I.k O O O<|I.k O O O<|I.k O O O<|I.k O O O<|Od O<|?_); cases b102
               ·replace hb102 := dF hb102; refine Wu O O<|Wk O<|Wr O<|I.j O O O (by omega)<|I.u O O<|Od O<|?_; have hst2 := (I.dr 2).perm hpx.symm; exact ⟨i + 1, ⟨O, trivial⟩, ⟨O, O, O, O, O, O, trivial⟩, ⟨by omega, hst2⟩, by omega⟩
               ·replace hb102 := dT hb102; exact absurd ((hsame hb74).2.2 hb90).2 hb102
              ·replace hb96 := dT hb96; exact absurd ((hsame hb74).2.2 hb90).1 hb96
            ·replace hb86 := dT hb86; exact absurd (hsame hb74).2.1 hb86
           ·replace hb80 := dT hb80; exact absurd (hsame hb74).1 hb80
        ·refine One.ww O (X.allocA I zeroValue57 fun p15 w15 I => ⟨(I.cx 1), ?_⟩); refine Drw.alts (Alts.more ?_ (Alts.one ?_))
         ·refine One.ww O (X.call Kf O ?_); refine Ab (C8 m1.u.who wb2 c.p hok nd hnd2 x2 _ _ _ _ _ ((I.perm (List.Perm.append_left [_] hpx.symm)).perm (Bv [_, _, _, _, _, _] x2 c.p wb2 (x1.res c.p wb1 L))) hx2 i m2 hm2 hwho) O ?_; clear I; rintro e w68 ⟨rfl, I⟩; replace I := (I.perm (Bv [_, _, _, _, _, _] x2 c.p wb2 (x1.res c.p wb1 L)).symm).perm (List.Perm.append_left [_] hpx); simp only [List.cons_append, List.nil_append] at I; refine ⟨_, O, ⟨(I.cx 1), ?_⟩⟩; refine Dq O (I.cx 1) (Y.nilCheck O)<|Dq O (I.cx 1) (Y.fieldAddr Be O)<|Dq O (I.cx 1) (Y.loadA 1 isAgg57 sizeOf57 O O O O)<|Dw O (X.allocA I zeroValue57 fun p16 w16 I => ⟨(I.cx 2), Dw O (X.storeS I 1 sizeOf57 O O O O O (lZ O) O O fun w16_20 I => ⟨(I.cx 2), Dw O (X.storeS I 0 sizeOf57 O O O O O (lZ O) O O fun w16_21 I => ⟨(I.cx 2), Dd<|Wh O<|I.p O O<|I.u O O<|Oc O Pm O ?_⟩)⟩)⟩); refine Ab (Cv rb1 c wb1 n1 l1 m1.u.who hok _ _ _ _ _ I.up_7) O ?_; clear I; rintro e w74 ⟨b74, rfl, hb74, I⟩; replace I := I.dn7; refine ⟨_, O, ?_⟩; refine I.b O O ?_; cases b74
          ·replace hb74 := dF hb74; refine On O<|On O<|On O<|On O<|On O<|On O<|On O<|On O<|On O<|On O<|On O<|On O<|On O<|On O<|On O<|On O<|On O<|On O<|On O<|On O<|On O<|On O<|On O<|On O<|On O<|On O<|On O<|On O<|On O<|On O<|I.k O O O<|Od O<|Wu O O<|Wk O<|Wr O<|I.j O O O (by omega)<|I.u O O<|Od O<|?_; have hst2 := (I.dr 2).perm hpx.symm; exact ⟨i + 1, ⟨O, trivial⟩, ⟨O, O, O, O, O, O, trivial⟩, ⟨by omega, hst2⟩, by omega⟩
          ·replace hb74 := dT hb74; refine I.f B3 O O<|I.l 1 O O O O<|I.f B3 O O<|I.l 0 O O O O<|I.yb O (Y.neq O O) (fun b80 hb80 => I.b O O<|?_); cases b80
           ·replace hb80 := dF hb80; refine I.f Bl O O<|I.y O (Y.load 1 isAgg4 O O O)<|I.f Bl O O<|I.y O (Y.load 0 isAgg4 O O O)<|I.yb O (Y.neB underlying4 O O) (fun b86 hb86 => I.k O O O<|I.b O O<|?_); cases b86
            ·replace hb86 := dF hb86; refine I.f Bl O O<|I.yb O (Y.cast (Y.load 1 isAgg4 O O O) (E5 _)) (fun b90 hb90 => I.b O O<|?_); cases b90
             ·replace hb90 := dF hb90; refine On O<|On O<|On O<|On O<|On O<|On O<|On O<|On O<|On O<|On O<|On O<|On O<|I.k O O O<|I.k O O O<|I.k O O O<|Od O<|Wu O O<|Wk O<|Wr O<|I.j O O O (by omega)<|I.u O O<|Od O<|?_; have hst2 := (I.dr 2).perm hpx.symm; exact ⟨i + 1, ⟨O, trivial⟩, ⟨O, O, O, O, O, O, trivial⟩, ⟨by omega, hst2⟩, by omega⟩
             ·replace hb90 := dT hb90; refine I.f Br O O<|I.y O (Y.loadA 1 isAgg53 sizeOf53 O O O O)<|I.f Br O O<|I.y O (Y.loadA 0 isAgg53 sizeOf53 O O O O)<|I.yb O (Y.ne2 Df De O O) (fun b96 hb96 => I.b O O<|?_); cases b96
              ·replace hb96 := dF hb96; refine I.f Bt O O<|I.l 1 O O O O<|I.f Bt O O<|I.l 0 O O O O<|I.yb O (Y.neq O O) (fun b102 hb102 => I.k O O O<|I.k O O O<|I.k O O O<|I.k O O O<|Od O<|?_); cases b102
               ·replace hb102 := dF hb102; refine Wu O O<|Wk O<|Wr O<|I.j O O O (by omega)<|I.u O O<|Od O<|?_; have hst2 := (I.dr 2).perm hpx.symm; exact ⟨i + 1, ⟨O, trivial⟩, ⟨O, O, O, O, O, O, trivial⟩, ⟨by omega, hst2⟩, by omega⟩
               ·replace hb102 := dT hb102; exact absurd ((hsame hb74).2.2 hb90).2 hb102
              ·replace hb96 := dT hb96; exact absurd ((hsame hb74).2.2 hb90).1 hb96
            ·replace hb86 := dT hb86; exact absurd (hsame hb74).2.1 hb86
           ·replace hb80 := dT hb80; exact absurd (hsame hb74).1 hb80
         ·refine One.ww O (X.allocA I zeroValue57 fun p16 w16 I => ⟨(I.cx 2), Dw O (X.call Kf O<|?_)⟩); refine Ab (C8 m1.u.who wb2 c.p hok nd hnd2 x2 _ _ _ _ _ ((I.perm (List.Perm.append_left [_, _] hpx.symm)).perm (Bv [_, _, _, _, _, _, _] x2 c.p wb2 (x1.res c.p wb1 L))) hx2 i m2 hm2 hwho) O ?_; clear I; rintro e w68 ⟨rfl, I⟩; replace I := (I.perm (Bv [_, _, _, _, _, _, _] x2 c.p wb2 (x1.res c.p wb1 L)).symm).perm (List.Perm.append_left [_, _] hpx); simp only [List.cons_append, List.nil_append] at I; refine ⟨_, O, ⟨(I.cx 2), ?_⟩⟩; refine Dq O (I.cx 2) (Y.nilCheck O)<|Dq O (I.cx 2) (Y.fieldAddr Be O)<|Dq O (I.cx 2) (Y.loadA 1 isAgg57 sizeOf57 O O O O)<|Dw O (X.storeS I 1 sizeOf57 O O O O O (lZ O) O O fun w16_20 I => ⟨(I.cx 2), Dw O (X.storeS I 0 sizeOf57 O O O O O (lZ O) O O fun w16_21 I => ⟨(I.cx 2), Dd<|Wh O<|I.p O O<|I.u O O<|Oc O Pm O ?_⟩)⟩); refine Ab (Cv rb1 c wb1 n1 l1 m1.u.who hok _ _ _ _ _ I.up_7) O ?_; clear I; rintro e w74 ⟨b74, rfl, hb74, I⟩; replace I := I.dn7; refine ⟨_, O, ?_⟩; refine I.b O O ?_; cases b74
          ·replace hb74 := dF hb74; refine On O<|On O<|On O<|On O<|On O<|On O<|On O<|On O<|On O<|On O<|On O<|On O<|On O<|On O<|On O<|On O<|On O<|On O<|On O<|On O<|On O<|On O<|On O<|On O<|On O<|On O<|On O<|On O<|On O<|On O<|I.k O O O<|Od O<|Wu O O<|Wk O<|Wr O<|I.j O O O (by omega)<|I.u O O<|Od O<|?_; have hst2 := (I.dr 2).perm hpx.symm; exact ⟨i + 1, ⟨O, trivial⟩, ⟨O, O, O, O, O, O, trivial⟩, ⟨by omega, hst2⟩, by omega⟩
          ·replace hb74 := dT hb74; refine I.f B3 O O<|I.l 1 O O O O<|I.f B3 O O<|I.l 0 O O O O<|I.yb O (Y.neq O O) (fun b80 hb80 => I.b O O<|?_); cases b80
           ·replace hb80 := dF hb80; refine I.f Bl O O<|I.y O (Y.load 1 isAgg4 O O O)<|I.f Bl O O<|I.y O (Y.load 0 isAgg4 O O O)<|I.yb O (Y.neB underlying4 O O) (fun b86 hb86 => I.k O O O<|I.b O O<|?_); cases b86
            ·replace hb86 := dF hb86; refine I.f Bl O O<|I.yb O (Y.cast (Y.load 1 isAgg4 O O O) (E5 _)) (fun b90 hb90 => I.b O O<|?_); cases b90
             ·replace hb90 := dF hb90; refine On O<|On O<|On O<|On O<|On O<|On O<|On O<|On O<|On O<|On O<|On O<|On O<|I.k O O O<|I.k O O O<|I.k O O O<|Od O<|Wu O O<|Wk O<|Wr O<|I.j O O O (by omega)<|I.u O O<|Od O<|?_; have hst2 := (I.dr 2).perm hpx.symm; exact ⟨i + 1, ⟨O, trivial⟩, ⟨O, O, O, O, O, O, trivial⟩, ⟨by omega, hst2⟩, by omega⟩
             ·replace hb90 := dT hb90; refine I.f Br O O<|I.y O (Y.loadA 1 isAgg53 sizeOf53 O O O O)<|I.f Br O O<|I.y O (Y.loadA 0 isAgg53 sizeOf53 O O O O)<|I.yb O (Y.ne2 Df De O O) (fun b96 hb96 => I.b O O<|?_); cases b96
              ·replace hb96 := dF hb96; refine I.f Bt O O<|I.l 1 O O O O<|I.f Bt O O<|I.l 0 O O O O<|I.yb O (Y.neq O O) (fun b102 hb102 => I.k O O O<|I.k O O O<|I.k O O O<|I.k O O O<|Od O<|?_); cases b102
               ·replace hb102 := dF hb102; refine Wu O O<|Wk O<|Wr O<|I.j O O O (by omega)<|I.u O O<|Od O<|?_; have hst2 := (I.dr 2).perm hpx.symm; exact ⟨i + 1, ⟨O, trivial⟩, ⟨O, O, O, O, O, O, trivial⟩, ⟨by omega, hst2⟩, by omega⟩
               ·replace hb102 := dT hb102; exact absurd ((hsame hb74).2.2 hb90).2 hb102
              ·replace hb96 := dT hb96; exact absurd ((hsame hb74).2.2 hb90).1 hb96
            ·replace hb86 := dT hb86; exact absurd (hsame hb74).2.1 hb86
           ·replace hb80 := dT hb80; exact absurd (hsame hb74).1 hb80
        ·refine One.ww O (X.allocA I zeroValue57 fun p16 w16 I => ⟨(I.cx 1), ?_⟩); refine Drw.alts (Alts.more ?_ (Alts.one ?_))
         ·refine One.ww O (X.call Kf O ?_); refine Ab (C8 m1.u.who wb2 c.p hok nd hnd2 x2 _ _ _ _ _ ((I.perm (List.Perm.append_left [_] hpx.symm)).perm (Bv [_, _, _, _, _, _] x2 c.p wb2 (x1.res c.p wb1 L))) hx2 i m2 hm2 hwho) O ?_; clear I; rintro e w68 ⟨rfl, I⟩; replace I := (I.perm (Bv [_, _, _, _, _, _] x2 c.p wb2 (x1.res c.p wb1 L)).symm).perm (List.Perm.append_left [_] hpx); simp only [List.cons_append, List.nil_append] at I; refine ⟨_, O, ⟨(I.cx 1), ?_⟩⟩; refine Dq O (I.cx 1) (Y.nilCheck O)<|Dq O (I.cx 1) (Y.fieldAddr Be O)<|Dq O (I.cx 1) (Y.loadA 1 isAgg57 sizeOf57 O O O O)<|Dw O (X.allocA I zeroValue57 fun p15 w15 I => ⟨(I.cx 2), Dw O (X.storeS I 0 sizeOf57 O O O O O (lZ O) O O fun w16_20 I => ⟨(I.cx 2), Dw O (X.storeS I 1 sizeOf57 O O O O O (lZ O) O O fun w16_21 I => ⟨(I.cx 2), Dd<|Wh O<|I.p O O<|I.u O O<|Oc O Pm O ?_⟩)⟩)⟩); refine Ab (Cv rb1 c wb1 n1 l1 m1.u.who hok _ _ _ _ _ I.up_7) O ?_; clear I; rintro e w74 ⟨b74, rfl, hb74, I⟩; replace I := I.dn7; refine ⟨_, O, ?_⟩; refine I.b O O ?_; cases b74
          ·replace hb74 := dF hb74; refine On O<|On O<|On O<|On O<|On O<|On O<|On O<|On O<|On O<|On O<|On O<|On O<|On O<|On O<|On O<|On O<|On O<|On O<|On O<|On O<|On O<|On O<|On O<|On O<|On O<|On O<|On O<|On O<|On O<|On O<|I.k O O O<|Od O<|Wu O O<|Wk O<|Wr O<|I.j O O O (by omega)<|I.u O O<|Od O<|?_; have hst2 := (I.dr 2).perm hpx.symm; exact ⟨i + 1, ⟨O, trivial⟩, ⟨O, O, O, O, O, O, trivial⟩, ⟨by omega, hst2⟩, by omega⟩
          ·replace hb74 := dT hb74; refine I.f B3 O O<|I.l 0 O O O O<|I.f B3 O O<|I.l 1 O O O O<|I.yb O (Y.neq O O) (fun b80 hb80 => I.b O O<|?_); cases b80
           ·replace hb80 := dF hb80; refine I.f Bl O O<|I.y O (Y.load 0 isAgg4 O O O)<|I.f Bl O O<|I.y O (Y.load 1 isAgg4 O O O)<|I.yb O (Y.neB underlying4 O O) (fun b86 hb86 => I.k O O O<|I.b O O<|?_); cases b86
            ·replace hb86 := dF hb86; refine I.f Bl O O<|I.yb O (Y.cast (Y.load 0 isAgg4 O O O) (E5 _)) (fun b90 hb90 => I.b O O<|?_); cases b90
             ·replace hb90 := dF hb90; refine On O<|On O<|On O<|On O<|On O<|On O<|On O<|On O<|On O<|On O<|On O<|On O<|I.k O O O<|I.k O O O<|I.k O O O<|Od O<|Wu O O<|Wk O<|Wr O<|I.j O O O (by omega)<|I.u O O<|Od O<|?_; have hst2 := (I.dr 2).perm hpx.symm; exact ⟨i + 1, ⟨O, trivial⟩, ⟨O, O, O, O, O, O, trivial⟩, ⟨by omega, hst2⟩, by omega⟩
             ·replace hb90 := dT hb90; refine I.f Br O O<|I.y O (Y.loadA 0 isAgg53 sizeOf53 O O O O)<|I.f Br O O<|I.y O (Y.loadA 1 isAgg53 sizeOf53 O O O O)<|I.yb O (Y.ne2 Df De O O) (fun b96 hb96 => I.b O O<|?_); cases b96
              ·replace hb96 := dF hb96; refine I.f Bt O O<|I.l 0 O O O O<|I.f Bt O O<|I.l 1 O O O O<|I.yb O (Y.neq O O) (fun b102 hb102 => I.k O O O<|I.k O O O<|I.k O O O<|I.k O O O<|Od O<|?_); cases b102
               ·replace hb102 := dF hb102; refine Wu O O<|Wk O<|Wr O<|I.j O O O (by omega)<|I.u O O<|Od O<|?_; have hst2 := (I.dr 2).perm hpx.symm; exact ⟨i + 1, ⟨O, trivial⟩, ⟨O, O, O, O, O, O, trivial⟩, ⟨by omega, hst2⟩, by omega⟩
               ·replace hb102 := dT hb102; exact absurd ((hsame hb74).2.2 hb90).2 hb102
              ·replace hb96 := dT hb96; exact absurd ((hsame hb74).2.2 hb90).1 hb96
            ·replace hb86 := dT hb86; exact absurd (hsame hb74).2.1 hb86
           ·replace hb80 := dT hb80; exact absurd (hsame hb74).1 hb80
         ·refine One.ww O (X.allocA I zeroValue57 fun p15 w15 I => ⟨(I.cx 2), Dw O (X.call Kf O<|?_)⟩); refine Ab (C8 m1.u.who wb2 c.p hok nd hnd2 x2 _ _ _ _ _ ((I.perm (List.Perm.append_left [_, _] hpx.symm)).perm (Bv [_, _, _, _, _, _, _] x2 c.p wb2 (x1.res c.p wb1 L))) hx2 i m2 hm2 hwho) O ?_; clear I; rintro e w68 ⟨rfl, I⟩; replace I := (I.perm (Bv [_, _, _, _, _, _, _] x2 c.p wb2 (x1.res c.p wb1 L)).symm).perm (List.Perm.append_left [_, _] hpx); simp only [List.cons_append, List.nil_append] at I; refine ⟨_, O, ⟨(I.cx 2), ?_⟩⟩; refine Dq O (I.cx 2) (Y.nilCheck O)<|Dq O (I.cx 2) (Y.fieldAddr Be O)<|Dq O (I.cx 2) (Y.loadA 1 isAgg57 sizeOf57 O O O O)<|Dw O (X.storeS I 0 sizeOf57 O O O O O (lZ O) O O fun w16_20 I => ⟨(I.cx 2), Dw O (X.storeS I 1 sizeOf57 O O O O O (lZ O) O O fun w16_21 I => ⟨(I.cx 2), Dd<|Wh O<|I.p O O<|I.u O O<|Oc O Pm O ?_⟩)⟩); refine Ab (Cv rb1 c wb1 n1 l1 m1.u.who hok _ _ _ _ _ I.up_7) O ?_; clear I; rintro e w74 ⟨b74, rfl, hb74, I⟩; replace I := I.dn7; refine ⟨_, O, ?_⟩; refine I.b O O ?_; cases b74
          ·replace hb74 := dF hb74; refine On O<|On O<|On O<|On O<|On O<|On O<|On O<|On O<|On O<|On O<|On O<|On O<|On O<|On O<|On O<|On O<|On O<|On O<|On O<|On O<|On O<|On O<|On O<|On O<|On O<|On O<|On O<|On O<|On O<|On O<|I.k O O O<|Od O<|Wu O O<|Wk O<|Wr O<|I.j O O O (by omega)<|I.u O O<|Od O<|?_; have hst2 := (I.dr 2).perm hpx.symm; exact ⟨i + 1, ⟨O, trivial⟩, ⟨O, O, O, O, O, O, trivial⟩, ⟨by omega, hst2⟩, by omega⟩
          ·replace hb74 := dT hb74; refine I.f B3 O O<|I.l 0 O O O O<|I.f B3 O O<|I.l 1 O O O O<|I.yb O (Y.neq O O) (fun b80 hb80 => I.b O O<|?_); cases b80
           ·replace hb80 := dF hb80; refine I.f Bl O O<|I.y O (Y.load 0 isAgg4 O O O)<|I.f Bl O O<|I.y O (Y.load 1 isAgg4 O O O)<|I.yb O (Y.neB underlying4 O O) (fun b86 hb86 => I.k O O O<|I.b O O<|?_); cases b86
            ·replace hb86 := dF hb86; refine I.f Bl O O<|I.yb O (Y.cast (Y.load 0 isAgg4 O O O) (E5 _)) (fun b90 hb90 => I.b O O<|?_); cases b90
             ·replace hb90 := dF hb90; refine On O<|On O<|On O<|On O<|On O<|On O<|On O<|On O<|On O<|On O<|On O<|On O<|I.k O O O<|I.k O O O<|I.k O O O<|Od O<|Wu O O<|Wk O<|Wr O<|I.j O O O (by omega)<|I.u O O<|Od O<|?_; have hst2 := (I.dr 2).perm hpx.symm; exact ⟨i + 1, ⟨O, trivial⟩, ⟨O, O, O, O, O, O, trivial⟩, ⟨by omega, hst2⟩, by omega⟩
             ·replace hb90 := dT hb90; refine I.f Br O O<|I.y O (Y.loadA 0 isAgg53 sizeOf53 O O O O)<|I.f Br O O<|I.y O (Y.loadA 1 isAgg53 sizeOf53 O O O O)<|I.yb O (Y.ne2 Df De O O) (fun b96 hb96 => I.b O O<|?_); cases b96
              ·replace hb96 := dF hb96; refine I.f Bt O O<|I.l 0 O O O O<|I.f Bt O O<|I.l 1 O O O O<|I.yb O (Y.neq O O) (fun b102 hb102 => I.k O O O<|I.k O O O<|I.k O O O<|I.k O O O<|Od O<|?_); cases b102
               ·replace hb102 := dF hb102; refine Wu O O<|Wk O<|Wr O<|I.j O O O (by omega)<|I.u O O<|Od O<|?_; have hst2 := (I.dr 2).perm hpx.symm; exact ⟨i + 1, ⟨O, trivial⟩, ⟨O, O, O, O, O, O, trivial⟩, ⟨by omega, hst2⟩, by omega⟩
               ·replace hb102 := dT hb102; exact absurd ((hsame hb74).2.2 hb90).2 hb102
              ·replace hb96 := dT hb96; exact absurd ((hsame hb74).2.2 hb90).1 hb96
            ·replace hb86 := dT hb86; exact absurd (hsame hb74).2.1 hb86
           ·replace hb80 := dT hb80; exact absurd (hsame hb74).1 hb80
       ·refine One.ww O (X.allocA I zeroValue57 fun p15 w15 I => ⟨(I.cx 1), ?_⟩); refine Drw.alts (Alts.more ?_ (Alts.one ?_))
        ·refine One.ww O (X.call Kf O ?_); refine Ab (C8 m1.u.who wb1 c.p hok nd hnd2 x1 _ _ _ _ _ ((I.perm (List.Perm.append_left [_] hpx.symm)).perm (Ec [_, _, _, _, _, _] x1 x2 c.p wb1 wb2 L)) hx1 i m1 hm1 O) O ?_; clear I; rintro e w59 ⟨rfl, I⟩; replace I := (I.perm (Ec [_, _, _, _, _, _] x1 x2 c.p wb1 wb2 L).symm).perm (List.Perm.append_left [_] hpx); simp only [List.cons_append, List.nil_append] at I; refine ⟨_, O, ⟨(I.cx 1), ?_⟩⟩; refine Dq O (I.cx 1) (Y.nilCheck O)<|Dq O (I.cx 1) (Y.fieldAddr Be O)<|Dq O (I.cx 1) (Y.loadA 0 isAgg57 sizeOf57 O O O O)<|?_; refine Drw.alts (Alts.more ?_ (Alts.one ?_))
         ·refine One.ww O (X.call Kf O ?_); refine Ab (C8 m1.u.who wb2 c.p hok nd hnd2 x2 _ _ _ _ _ ((I.perm (List.Perm.append_left [_] hpx.symm)).perm (Bv [_, _, _, _, _, _] x2 c.p wb2 (x1.res c.p wb1 L))) hx2 i m2 hm2 hwho) O ?_; clear I; rintro e w68 ⟨rfl, I⟩; replace I := (I.perm (Bv [_, _, _, _, _, _] x2 c.p wb2 (x1.res c.p wb1 L)).symm).perm (List.Perm.append_left [_] hpx); simp only [List.cons_append, List.nil_append] at I; refine ⟨_, O, ⟨(I.cx 1), ?_⟩⟩; refine Dq O (I.cx 1) (Y.nilCheck O)<|Dq O (I.cx 1) (Y.fieldAddr Be O)<|Dq O (I.cx 1) (Y.loadA 1 isAgg57 sizeOf57 O O O O)<|Dw O (X.allocA I zeroValue57 fun p16 w16 I => ⟨(I.cx 2), Dw O (X.storeS I 1 sizeOf57 O O O O O (lZ O) O O fun w16_20 I => ⟨(I.cx 2), Dw O (X.storeS I 0 sizeOf57 O O O O O (lZ O) O O fun w16_21 I => ⟨(I.cx 2), Dd<|Wh O<|I.p O O<|I.u O O<|Oc O Pm O ?_⟩)⟩)⟩); refine Ab (Cv rb1 c wb1 n1 l1 m1.u.who hok _ _ _ _ _ I.up_7) O ?_; clear I; rintro e w74 ⟨b74, rfl, hb74, I⟩; replace I := I.dn7; refine ⟨_, O, ?_⟩; refine I.b O O ?_; cases b74
          ·replace hb74 := dF hb74; refine On O<|On O<|On O<|On O<|On O<|On O<|On O<|On O<|On O<|On O<|On O<|On O<|On O<|On O<|On O<|On O<|On O<|On O<|On O<|On O<|On O<|On O<|On O<|On O<|On O<|On O<|On O<|On O<|On O<|On O<|I.k O O O<|Od O<|Wu O O<|Wk O<|Wr O<|I.j O O O (by omega)<|I.u O O<|Od O<|?_; have hst2 := (I.dr 2).perm hpx.symm; exact ⟨i + 1, ⟨O, trivial⟩, ⟨O, O, O, O, O, O, trivial⟩, ⟨by omega, hst2⟩, by omega⟩
          ·replace hb74 := dT hb74; refine I.f B3 O O<|I.l 1 O O O O<|I.f B3 O O<|I.l 0 O O O O<|I.yb O (Y.neq O O) (fun b80 hb80 => I.b O O<|?_); cases b80
           ·replace hb80 := dF hb80; refine I.f Bl O O<|I.y O (Y.load 1 isAgg4 O O O)<|I.f Bl O O<|I.y O (Y.load 0 isAgg4 O O O)<|I.yb O (Y.neB underlying4 O O) (fun b86 hb86 => I.k O O O<|I.b O O<|?_); cases b86
            ·replace hb86 := dF hb86; refine I.f Bl O O<|I.yb O (Y.cast (Y.load 1 isAgg4 O O O) (E5 _)) (fun b90 hb90 => I.b O O<|?_); cases b90
             ·replace hb90 := dF hb90; refine On O<|On O<|On O<|On O<|On O<|On O<|On O<|On O<|On O<|On O<|On O<|On O<|I.k O O O<|I.k O O O<|I.k O O O<|Od O<|Wu O O<|Wk O<|Wr O<|I.j O O O (by omega)<|I.u O O<|Od O<|?_; have hst2 := (I.dr 2).perm hpx.symm; exact ⟨i + 1, ⟨O, trivial⟩, ⟨O, O, O, O, O, O, trivial⟩, ⟨by omega, hst2⟩, by omega⟩
             ·replace hb90 := dT hb90; refine I.f Br O O<|I.y O (Y.loadA 1 isAgg53 sizeOf53 O O O O)<|I.f Br O O<|I.y O (Y.loadA 0 isAgg53 sizeOf53 O O O O)<|I.yb O (Y.ne2 Df De O O) (fun b96 hb96 => I.b O O<|?_); cases b96
              ·replace hb96 := dF hb96; refine I.f Bt O O<|I.l 1 O O O O<|I.f Bt O O<|I.l 0 O O O O<|I.yb O (Y.neq O O) (fun b102 hb102 => I.k O O O<|I.k O O O<|I.k O O O<|I.k O O O<|Od O<|?_); cases b102
               ·replace hb102 := dF hb102; refine Wu O O<|Wk O<|Wr O<|I.j O O O (by omega)<|I.u O O<|Od O<|?_; have hst2 := (I.dr 2).perm hpx.symm; exact ⟨i + 1, ⟨O, trivial⟩, ⟨O, O, O, O, O, O, trivial⟩, ⟨by omega, hst2⟩, by omega⟩
               ·replace hb102 := dT hb102; exact absurd ((hsame hb74).2.2 hb90).2 hb102
              ·replace hb96 := dT hb96; exact absurd ((hsame hb74).2.2 hb90).1 hb96
            ·replace hb86 := dT hb86; exact absurd (hsame hb74).2.1 hb86
           ·replace hb80 := dT hb80; exact absurd (hsame hb74).1 hb80
         ·refine One.ww O (X.allocA I zeroValue57 fun p16 w16 I => ⟨(I.cx 2), Dw O (X.call Kf O<|?_)⟩); refine Ab (C8 m1.u.who wb2 c.p hok nd hnd2 x2 _ _ _ _ _ ((I.perm (List.Perm.append_left [_, _] hpx.symm)).perm (Bv [_, _, _, _, _, _, _] x2 c.p wb2 (x1.res c.p wb1 L))) hx2 i m2 hm2 hwho) O ?_; clear I; rintro e w68 ⟨rfl, I⟩; replace I := (I.perm (Bv [_, _, _, _, _, _, _] x2 c.p wb2 (x1.res c.p wb1 L)).symm).perm (List.Perm.append_left [_, _] hpx); simp only [List.cons_append, List.nil_append] at I; refine ⟨_, O, ⟨(I.cx 2), ?_⟩⟩; refine Dq O (I.cx 2) (Y.nilCheck O)<|Dq O (I.cx 2) (Y.fieldAddr Be O)<|Dq O (I.cx 2) (Y.loadA 1 isAgg57 sizeOf57 O O O O)<|Dw O (X.storeS I 1 sizeOf57 O O O O O (lZ O) O O fun w16_20 I => ⟨(I.cx 2), Dw O (X.storeS I 0 sizeOf57 O O O O O (lZ O) O O fun w16_21 I => ⟨(I.cx 2), Dd<|Wh O<|I.p O O<|I.u O O<|Oc O Pm O ?_⟩)⟩); refine Ab (Cv rb1 c wb1 n1 l1 m1.u.who hok _ _ _ _ _ I.up_7) O ?_; clear I; rintro e w74 ⟨b74, rfl, hb74, I⟩; replace I := I.dn7; refine ⟨_, O, ?_⟩; refine I.b O O ?_; cases b74
          ·replace hb74 := dF hb74; refine On O<|On O<|On O<|On O<|On O<|On O<|On O<|On O<|On O<|On O<|On O<|On O<|On O<|On O<|On O<|On O<|On O<|On O<|On O<|On O<|On O<|On O<|On O<|On O<|On O<|On O<|On O<|On O<|On O<|On O<|I.k O O O<|Od O<|Wu O O<|Wk O<|Wr O<|I.j O O O (by omega)<|I.u O O<|Od O<|?_; have hst2 := (I.dr 2).perm hpx.symm; exact ⟨i + 1, ⟨O, trivial⟩, ⟨O, O, O, O, O, O, trivial⟩, ⟨by omega, hst2⟩, by omega⟩
          ·replace hb74 := dT hb74; refine I.f B3 O O<|I.l 1 O O O O<|I.f B3 O O<|I.l 0 O O O O<|I.yb O (Y.neq O O) (fun b80 hb80 => I.b O O<|?_); cases b80
           ·replace hb80 := dF hb80; refine I.f Bl O O<|I.y O (Y.load 1 isAgg4 O O O)<|I.f Bl O O<|I.y O (Y.load 0 isAgg4 O O O)<|I.yb O (Y.neB underlying4 O O) (fun b86 hb86 => I.k O O O<|I.b O O<|?_); cases b86
            ·replace hb86 := dF hb86; refine I.f Bl O O<|I.yb O (Y.cast (Y.load 1 isAgg4 O O O) (E5 _)) (fun b90 hb90 => I.b O O<|?_); cases b90
             ·replace hb90 := dF hb90; refine On O<|On O<|On O<|On O<|On O<|On O<|On O<|On O<|On O<|On O<|On O<|On O<|I.k O O O<|I.k O O O<|I.k O O O<|Od O<|Wu O O<|Wk O<|Wr O<|I.j O O O (by omega)<|I.u O O<|Od O<|?_; have hst2 := (I.dr 2).perm hpx.symm; exact ⟨i + 1, ⟨O, trivial⟩, ⟨O, O, O, O, O, O, trivial⟩, ⟨by omega, hst2⟩, by omega⟩
             ·replace hb90 := dT hb90; refine I.f Br O O<|I.y O (Y.loadA 1 isAgg53 sizeOf53 O O O O)<|I.f Br O O<|I.y O (Y.loadA 0 isAgg53 sizeOf53 O O O O)<|I.yb O (Y.ne2 Df De O O) (fun b96 hb96 => I.b O O<|?_); cases b96
              ·replace hb96 := dF hb96; refine I.f Bt O O<|I.l 1 O O O O<|I.f Bt O O<|I.l 0 O O O O<|I.yb O (Y.neq O O) (fun b102 hb102 => I.k O O O<|I.k O O O<|I.k O O O<|I.k O O O<|Od O<|?_); cases b102
               ·replace hb102 := dF hb102; refine Wu O O<|Wk O<|Wr O<|I.j O O O (by omega)<|I.u O O<|Od O<|?_; have hst2 := (I.dr 2).perm hpx.symm; exact ⟨i + 1, ⟨O, trivial⟩, ⟨O, O, O, O, O, O, trivial⟩, ⟨by omega, hst2⟩, by omega⟩
               ·replace hb102 := dT hb102; exact absurd ((hsame hb74).2.2 hb90).2 hb102
              ·replace hb96 := dT hb96; exact absurd ((hsame hb74).2.2 hb90).1 hb96
            ·replace hb86 := dT hb86; exact absurd (hsame hb74).2.1 hb86
           ·replace hb80 := dT hb80; exact absurd (hsame hb74).1 hb80
        ·refine One.ww O (X.allocA I zeroValue57 fun p16 w16 I => ⟨(I.cx 2), Dw O (X.call Kf O<|?_)⟩); refine Ab (C8 m1.u.who wb1 c.p hok nd hnd2 x1 _ _ _ _ _ ((I.perm (List.Perm.append_left [_, _] hpx.symm)).perm (Ec [_, _, _, _, _, _, _] x1 x2 c.p wb1 wb2 L)) hx1 i m1 hm1 O) O ?_; clear I; rintro e w59 ⟨rfl, I⟩; replace I := (I.perm (Ec [_, _, _, _, _, _, _] x1 x2 c.p wb1 wb2 L).symm).perm (List.Perm.append_left [_, _] hpx); simp only [List.cons_append, List.nil_append] at I; refine ⟨_, O, ⟨(I.cx 2), ?_⟩⟩; refine Dq O (I.cx 2) (Y.nilCheck O)<|Dq O (I.cx 2) (Y.fieldAddr Be O)<|Dq O (I.cx 2) (Y.loadA 0 isAgg57 sizeOf57 O O O O)<|Dw O (X.call Kf O<|?_); refine Ab (C8 m1.u.who wb2 c.p hok nd hnd2 x2 _ _ _ _ _ ((I.perm (List.Perm.append_left [_, _] hpx.symm)).perm (Bv [_, _, _, _, _, _, _] x2 c.p wb2 (x1.res c.p wb1 L))) hx2 i m2 hm2 hwho) O ?_; clear I; rintro e w68 ⟨rfl, I⟩; replace I := (I.perm (Bv [_, _, _, _, _, _, _] x2 c.p wb2 (x1.res c.p wb1 L)).symm).perm (List.Perm.append_left [_, _] hpx); simp only [List.cons_append, List.nil_append] at I; refine ⟨_, O, ⟨(I.cx 2), ?_⟩⟩; refine Dq O (I.cx 2) (Y.nilCheck O)<|Dq O (I.cx 2) (Y.fieldAddr Be O)<|Dq O (I.cx 2) (Y.loadA 1 isAgg57 sizeOf57 O O O O)<|Dw O (X.storeS I 1 sizeOf57 O O O O O (lZ O) O O fun w16_20 I => ⟨(I.cx 2), Dw O (X.storeS I 0 sizeOf57 O O O O O (lZ O) O O fun w16_21 I => ⟨(I.cx 2), Dd<|Wh O<|I.p O O<|I.u O O<|Oc O Pm O ?_⟩)⟩); refine Ab (Cv rb1 c wb1 n1 l1 m1.u.who hok _ _ _ _ _ I.up_7) O ?_; clear I; rintro e w74 ⟨b74, rfl, hb74, I⟩; replace I := I.dn7; refine ⟨_, O, ?_⟩; refine I.b O O ?_; cases b74
         ·replace hb74 := dF hb74; refine On O<|On O<|On O<|On O<|On O<|On O<|On O<|On O<|On O<|On O<|On O<|On O<|On O<|On O<|On O<|On O<|On O<|On O<|On O<|On O<|On O<|On O<|On O<|On O<|On O<|On O<|On O<|On O<|On O<|On O<|I.k O O O<|Od O<|Wu O O<|Wk O<|Wr O<|I.j O O O (by omega)<|I.u O O<|Od O<|?_; have hst2 := (I.dr 2).perm hpx.symm; exact ⟨i + 1, ⟨O, trivial⟩, ⟨O, O, O, O, O, O, trivial⟩, ⟨by omega, hst2⟩, by omega⟩
         ·replace hb74 := dT hb74; refine I.f B3 O O<|I.l 1 O O O O<|I.f B3 O O<|I.l 0 O O O O<|I.yb O (Y.neq O O) (fun b80 hb80 => I.b O O<|?_); cases b80
          ·replace hb80 := dF hb80; refine I.f Bl O O<|I.y O (Y.load 1 isAgg4 O O O)<|I.f Bl O O<|I.y O (Y.load 0 isAgg4 O O O)<|I.yb O (Y.neB underlying4 O O) (fun b86 hb86 => I.k O O O<|I.b O O<|?_); cases b86
           ·replace hb86 := dF hb86; refine I.f Bl O O<|I.yb O (Y.cast (Y.load 1 isAgg4 O O O) (E5 _)) (fun b90 hb90 => I.b O O<|?_); cases b90
            ·replace hb90 := dF hb90; refine On O<|On O<|On O<|On O<|On O<|On O<|On O<|On O<|On O<|On O<|On O<|On O<|I.k O O O<|I.k O O O<|I.k O O O<|Od O<|Wu O O<|Wk O<|Wr O<|I.j O O O (by omega)<|I.u O O<|Od O<|?_; have hst2 := (I.dr 2).perm hpx.symm; exact ⟨i + 1, ⟨O, trivial⟩, ⟨O, O, O, O, O, O, trivial⟩, ⟨by omega, hst2⟩, by omega⟩
            ·replace hb90 := dT hb90; refine I.f Br O O<|I.y O (Y.loadA 1 isAgg53 sizeOf53 O O O O)<|I.f Br O O<|I.y O (Y.loadA 0 isAgg53 sizeOf53 O O O O)<|I.yb O (Y.ne2 Df De O O) (fun b96 hb96 => I.b O O<|?_); cases b96
             ·replace hb96 := dF hb96; refine I.f Bt O O<|I.l 1 O O O O<|I.f Bt O O<|I.l 0 O O O O<|I.yb O (Y.neq O O) (fun b102 hb102 => I.k O O O<|I.k O O O<|I.k O O O<|I.k O O O<|Od O<|?_); cases b102
              ·replace hb102 := dF hb102; refine Wu O O<|Wk O<|Wr O<|I.j O O O (by omega)<|I.u O O<|Od O<|?_; have hst2 := (I.dr 2).perm hpx.symm; exact ⟨i + 1, ⟨O, trivial⟩, ⟨O, O, O, O, O, O, trivial⟩, ⟨by omega, hst2⟩, by omega⟩
              ·replace hb102 := dT hb102; exact absurd ((hsame hb74).2.2 hb90).2 hb102
             ·replace hb96 := dT hb96; exact absurd ((hsame hb74).2.2 hb90).1 hb96
           ·replace hb86 := dT hb86; exact absurd (hsame hb74).2.1 hb86
          ·replace hb80 := dT hb80; exact absurd (hsame hb74).1 hb80
       ·refine One.ww O (X.allocA I zeroValue57 fun p16 w16 I => ⟨(I.cx 1), ?_⟩); refine Drw.alts (Alts.more ?_ (Alts.one ?_))
        ·refine One.ww O (X.call Kf O ?_); refine Ab (C8 m1.u.who wb1 c.p hok nd hnd2 x1 _ _ _ _ _ ((I.perm (List.Perm.append_left [_] hpx.symm)).perm (Ec [_, _, _, _, _, _] x1 x2 c.p wb1 wb2 L)) hx1 i m1 hm1 O) O ?_; clear I; rintro e w59 ⟨rfl, I⟩; replace I := (I.perm (Ec [_, _, _, _, _, _] x1 x2 c.p wb1 wb2 L).symm).perm (List.Perm.append_left [_] hpx); simp only [List.cons_append, List.nil_append] at I; refine ⟨_, O, ⟨(I.cx 1), ?_⟩⟩; refine Dq O (I.cx 1) (Y.nilCheck O)<|Dq O (I.cx 1) (Y.fieldAddr Be O)<|Dq O (I.cx 1) (Y.loadA 0 isAgg57 sizeOf57 O O O O)<|?_; refine Drw.alts (Alts.more ?_ (Alts.one ?_))
         ·refine One.ww O (X.call Kf O ?_); refine Ab (C8 m1.u.who wb2 c.p hok nd hnd2 x2 _ _ _ _ _ ((I.perm (List.Perm.append_left [_] hpx.symm)).perm (Bv [_, _, _, _, _, _] x2 c.p wb2 (x1.res c.p wb1 L))) hx2 i m2 hm2 hwho) O ?_; clear I; rintro e w68 ⟨rfl, I⟩; replace I := (I.perm (Bv [_, _, _, _, _, _] x2 c.p wb2 (x1.res c.p wb1 L)).symm).perm (List.Perm.append_left [_] hpx); simp only [List.cons_append, List.nil_append] at I; refine ⟨_, O, ⟨(I.cx 1), ?_⟩⟩; refine Dq O (I.cx 1) (Y.nilCheck O)<|Dq O (I.cx 1) (Y.fieldAddr Be O)<|Dq O (I.cx 1) (Y.loadA 1 isAgg57 sizeOf57 O O O O)<|Dw O (X.allocA I zeroValue57 fun p15 w15 I => ⟨(I.cx 2), Dw O (X.storeS I 0 sizeOf57 O O O O O (lZ O) O O fun w16_20 I => ⟨(I.cx 2), Dw O (X.storeS I 1 sizeOf57 O O O O O (lZ O) O O fun w16_21 I => ⟨(I.cx 2), Dd<|Wh O<|I.p O O<|I.u O O<|Oc O Pm O ?_⟩)⟩)⟩); refine Ab (Cv rb1 c wb1 n1 l1 m1.u.who hok _ _ _ _ _ I.up_7) O ?_; clear I; rintro e w74 ⟨b74, rfl, hb74, I⟩; replace I := I.dn7; refine ⟨_, O, ?_⟩; refine I.b O O ?_; cases b74
          ·replace hb74 := dF hb74; refine On O<|On O<|On O<|On O<|On O<|On O<|On O<|On O<|On O<|On O<|On O<|On O<|On O<|On O<|On O<|On O<|On O<|On O<|On O<|On O<|On O<|On O<|On O<|On O<|On O<|On O<|On O<|On O<|On O<|On O<|I.k O O O<|Od O<|Wu O O<|Wk O<|Wr O<|I.j O O O (by omega)<|I.u O O<|Od O<|?_; have hst2 := (I.dr 2).perm hpx.symm; exact ⟨i + 1, ⟨O, trivial⟩, ⟨O, O, O, O, O, O, trivial⟩, ⟨by omega, hst2⟩, by omega⟩
          ·replace hb74 := dT hb74; refine I.f B3 O O<|I.l 0 O O O O<|I.f B3 O O<|I.l 1 O O O O<|I.yb O (Y.neq O O) (fun b80 hb80 => I.b O O<|?_); cases b80
           ·replace hb80 := dF hb80; refine I.f Bl O O<|I.y O (Y.load 0 isAgg4 O O O)<|I.f Bl O O<|I.y O (Y.load 1 isAgg4 O O O)<|I.yb O (Y.neB underlying4 O O) (fun b86 hb86 => I.k O O O<|I.b O O<|?_); cases b86
            ·replace hb86 := dF hb86; refine I.f Bl O O<|I.yb O (Y.cast (Y.load 0 isAgg4 O O O) (E5 _)) (fun b90 hb90 => I.b O O<|?_); cases b90
             ·replace hb90 := dF hb90; refine On O<|On O<|On O<|On O<|On O<|On O<|On O<|On O<|On O<|On O<|On O<|On O<|I.k O O O<|I.k O O O<|I.k O O O<|Od O<|Wu O O<|Wk O<|Wr O<|I.j O O O (by omega)<|I.u O O<|Od O<|?_; have hst2 := (I.dr 2).perm hpx.symm; exact ⟨i + 1, ⟨O, trivial⟩, ⟨O, O, O, O, O, O, trivial⟩, ⟨by omega, hst2⟩, by omega⟩
             ·replace hb90 := dT hb90; refine I.f Br O O<|I.y O (Y.loadA 0 isAgg53 sizeOf53 O O O O)<|I.f Br O O<|I.y O (Y.loadA 1 isAgg53 sizeOf53 O O O O)<|I.yb O (Y.ne2 Df De O O) (fun b96 hb96 => I.b O O<|?_); cases b96
              ·replace hb96 := dF hb96; refine I.f Bt O O<|I.l 0 O O O O<|I.f Bt O O<|I.l 1 O O O O<|I.yb O (Y.neq O O) (fun b102 hb102 => I.k O O O<|I.k O O O<|I.k O O O<|I.k O O O<|Od O<|?_); cases b102
               ·replace hb102 := dF hb102; refine Wu O O<|Wk O<|Wr O<|I.j O O O (by omega)<|I.u O O<|Od O<|?_; have hst2 := (I.dr 2).perm hpx.symm; exact ⟨i + 1, ⟨O, trivial⟩, ⟨O, O, O, O, O, O, trivial⟩, ⟨by omega, hst2⟩, by omega⟩
               ·replace hb102 := dT hb102; exact absurd ((hsame hb74).2.2 hb90).2 hb102
              ·replace hb96 := dT hb96; exact absurd ((hsame hb74).2.2 hb90).1 hb96
            ·replace hb86 := dT hb86; exact absurd (hsame hb74).2.1 hb86
           ·replace hb80 := dT hb80; exact absurd (hsame hb74).1 hb80
         ·refine One.ww O (X.allocA I zeroValue57 fun p15 w15 I => ⟨(I.cx 2), Dw O (X.call Kf O<|?_)⟩); refine Ab (C8 m1.u.who wb2 c.p hok nd hnd2 x2 _ _ _ _ _ ((I.perm (List.Perm.append_left [_, _] hpx.symm)).perm (Bv [_, _, _, _, _, _, _] x2 c.p wb2 (x1.res c.p wb1 L))) hx2 i m2 hm2 hwho) O ?_; clear I; rintro e w68 ⟨rfl, I⟩; replace I := (I.perm (Bv [_, _, _, _, _, _, _] x2 c.p wb2 (x1.res c.p wb1 L)).symm).perm (List.Perm.append_left [_, _] hpx); simp only [List.cons_append, List.nil_append] at I; refine ⟨_, O, ⟨(I.cx 2), ?_⟩⟩; refine Dq O (I.cx 2) (Y.nilCheck O)<|Dq O (I.cx 2) (Y.fieldAddr Be O)<|Dq O (I.cx 2) (Y.loadA 1 isAgg57 sizeOf57 O O O O)<|Dw O (X.storeS I 0 sizeOf57 O O O O O (lZ O) O O fun w16_20 I => ⟨(I.cx 2), Dw O (X.storeS I 1 sizeOf57 O O O O O (lZ O) O O fun w16_21 I => ⟨(I.cx 2), Dd<|Wh O<|I.p O O<|I.u O O<|Oc O Pm O ?_⟩)⟩); refine Ab (Cv rb1 c wb1 n1 l1 m1.u.who hok _ _ _ _ _ I.up_7) O ?_; clear I; rintro e w74 ⟨b74, rfl, hb74, I⟩; replace I := I.dn7; refine ⟨_, O, ?_⟩; refine I.b O O ?_; cases b74
          ·replace hb74 := dF hb74; refine On O<|On O<|On O<|On O<|On O<|On O<|On O<|On O<|On O<|On O<|On O<|On O<|On O<|On O<|On O<|On O<|On O<|On O<|On O<|On O<|On O<|On O<|On O<|On O<|On O<|On O<|On O<|On O<|On O<|On O<|I.k O O O<|Od O<|Wu O O<|Wk O<|Wr O<|I.j O O O (by omega)<|I.u O O<|Od O<|?_; have hst2 := (I.dr 2).perm hpx.symm; exact ⟨i + 1, ⟨O, trivial⟩, ⟨O, O, O, O, O, O, trivial⟩, ⟨by omega, hst2⟩, by omega⟩
          ·replace hb74 := dT hb74; refine I.f B3 O O<|I.l 0 O O O O<|I.f B3 O O<|I.l 1 O O O O<|I.yb O (Y.neq O O) (fun b80 hb80 => I.b O O<|?_); cases b80
           ·replace hb80 := dF hb80; refine I.f Bl O O<|I.y O (Y.load 0 isAgg4 O O O)<|I.f Bl O O<|I.y O (Y.load 1 isAgg4 O O O)<|I.yb O (Y.neB underlying4 O O) (fun b86 hb86 => I.k O O O<|I.b O O<|?_); cases b86
            ·replace hb86 := dF hb86; refine I.f Bl O O<|I.yb O (Y.cast (Y.load 0 isAgg4 O O O) (E5 _)) (fun b90 hb90 => I.b O O<|?_); cases b90
             ·replace hb90 := dF hb90; refine On O<|On O<|On O<|On O<|On O<|On O<|On O<|On O<|On O<|On O<|On O<|On O<|I.k O O O<|I.k O O O<|I.k O O O<|Od O<|Wu O O<|Wk O<|Wr O<|I.j O O O (by omega)<|I.u O O<|Od O<|?_; have hst2 := (I.dr 2).perm hpx.symm; exact ⟨i + 1, ⟨O, trivial⟩, ⟨O, O, O, O, O, O, trivial⟩, ⟨by omega, hst2⟩, by omega⟩
             ·replace hb90 := dT hb90; refine I.f Br O O<|I.y O (Y.loadA 0 isAgg53 sizeOf53 O O O O)<|I.f Br O O<|I.y O (Y.loadA 1 isAgg53 sizeOf53 O O O O)<|I.yb O (Y.ne2 Df De O O) (fun b96 hb96 => I.b O O<|?_); cases b96
              ·replace hb96 := dF hb96; refine I.f Bt O O<|I.l 0 O O O O<|I.f Bt O O<|I.l 1 O O O O<|I.yb O (Y.neq O O) (fun b102 hb102 => I.k O O O<|I.k O O O<|I.k O O O<|I.k O O O<|Od O<|?_); cases b102
               ·replace hb102 := dF hb102; refine Wu O O<|Wk O<|Wr O<|I.j O O O (by omega)<|I.u O O<|Od O<|?_; have hst2 := (I.dr 2).perm hpx.symm; exact ⟨i + 1, ⟨O, trivial⟩, ⟨O, O, O, O, O, O, trivial⟩, ⟨by omega, hst2⟩, by omega⟩
               ·replace hb102 := dT hb102; exact absurd ((hsame hb74).2.2 hb90).2 hb102
              ·replace hb96 := dT hb96; exact absurd ((hsame hb74).2.2 hb90).1 hb96
            ·replace hb86 := dT hb86; exact absurd (hsame hb74).2.1 hb86
           ·replace hb80 := dT hb80; exact absurd (hsame hb74).1 hb80
        ·refine One.ww O (X.allocA I zeroValue57 fun p15 w15 I => ⟨(I.cx 2), Dw O (X.call Kf O<|?_)⟩); refine Ab (C8 m1.u.who wb1 c.p hok nd hnd2 x1 _ _ _ _ _ ((I.perm (List.Perm.append_left [_, _] hpx.symm)).perm (Ec [_, _, _, _, _, _, _] x1 x2 c.p wb1 wb2 L)) hx1 i m1 hm1 O) O ?_; clear I; rintro e w59 ⟨rfl, I⟩; replace I := (I.perm (Ec [_, _, _, _, _, _, _] x1 x2 c.p wb1 wb2 L).symm).perm (List.Perm.append_left [_, _] hpx); simp only [List.cons_append, List.nil_append] at I; refine ⟨_, O, ⟨(I.cx 2), ?_⟩⟩; refine Dq O (I.cx 2) (Y.nilCheck O)<|Dq O (I.cx 2) (Y.fieldAddr Be O)<|Dq O (I.cx 2) (Y.loadA 0 isAgg57 sizeOf57 O O O O)<|Dw O (X.call Kf O<|?_); refine Ab (C8 m1.u.who wb2 c.p hok nd hnd2 x2 _ _ _ _ _ ((I.perm (List.Perm.append_left [_, _] hpx.symm)).perm (Bv [_, _, _, _, _, _, _] x2 c.p wb2 (x1.res c.p wb1 L))) hx2 i m2 hm2 hwho) O ?_; clear I; rintro e w68 ⟨rfl, I⟩; replace I := (I.perm (Bv [_, _, _, _, _, _, _] x2 c.p wb2 (x1.res c.p wb1 L)).symm).perm (List.Perm.append_left [_, _] hpx); simp only [List.cons_append, List.nil_append] at I; refine ⟨_, O, ⟨(I.cx 2), ?_⟩⟩; refine Dq O (I.cx 2) (Y.nilCheck O)<|Dq O (I.cx 2) (Y.fieldAddr Be O)<|Dq O (I.cx 2) (Y.loadA 1 isAgg57 sizeOf57 O O O O)<|Dw O (X.storeS I 0 sizeOf57 O O O O O (lZ O) O O fun w16_20 I => ⟨(I.cx 2), Dw O (X.storeS I 1 sizeOf57 O O O O O (lZ O) O O fun w16_21 I => ⟨(I.cx 2), Dd<|Wh O<|I.p O O<|I.u O O<|Oc O Pm O ?_⟩)⟩); refine Ab (Cv rb1 c wb1 n1 l1 m1.u.who hok _ _ _ _ _ I.up_7) O ?_; clear I; rintro e w74 ⟨b74, rfl, hb74, I⟩; replace I := I.dn7; refine ⟨_, O, ?_⟩; refine I.b O O ?_; cases b74
         ·replace hb74 := dF hb74; refine On O<|On O<|On O<|On O<|On O<|On O<|On O<|On O<|On O<|On O<|On O<|On O<|On O<|On O<|On O<|On O<|On O<|On O<|On O<|On O<|On O<|On O<|On O<|On O<|On O<|On O<|On O<|On O<|On O<|On O<|I.k O O O<|Od O<|Wu O O<|Wk O<|Wr O<|I.j O O O (by omega)<|I.u O O<|Od O<|?_; have hst2 := (I.dr 2).perm hpx.symm; exact ⟨i + 1, ⟨O, trivial⟩, ⟨O, O, O, O, O, O, trivial⟩, ⟨by omega, hst2⟩, by omega⟩
         ·replace hb74 := dT hb74; refine I.f B3 O O<|I.l 0 O O O O<|I.f B3 O O<|I.l 1 O O O O<|I.yb O (Y.neq O O) (fun b80 hb80 => I.b O O<|?_); cases b80
          ·replace hb80 := dF hb80; refine I.f Bl O O<|I.y O (Y.load 0 isAgg4 O O O)<|I.f Bl O O<|I.y O (Y.load 1 isAgg4 O O O)<|I.yb O (Y.neB underlying4 O O) (fun b86 hb86 => I.k O O O<|I.b O O<|?_); cases b86
           ·replace hb86 := dF hb86; refine I.f Bl O O<|I.yb O (Y.cast (Y.load 0 isAgg4 O O O) (E5 _)) (fun b90 hb90 => I.b O O<|?_); cases b90
            ·replace hb90 := dF hb90; refine On O<|On O<|On O<|On O<|On O<|On O<|On O<|On O<|On O<|On O<|On O<|On O<|I.k O O O<|I.k O O O<|I.k O O O<|Od O<|Wu O O<|Wk O<|Wr O<|I.j O O O (by omega)<|I.u O O<|Od O<|?_; have hst2 := (I.dr 2).perm hpx.symm; exact ⟨i + 1, ⟨O, trivial⟩, ⟨O, O, O, O, O, O, trivial⟩, ⟨by omega, hst2⟩, by omega⟩
            ·replace hb90 := dT hb90; refine I.f Br O O<|I.y O (Y.loadA 0 isAgg53 sizeOf53 O O O O)<|I.f Br O O<|I.y O (Y.loadA 1 isAgg53 sizeOf53 O O O O)<|I.yb O (Y.ne2 Df De O O) (fun b96 hb96 => I.b O O<|?_); cases b96
             ·replace hb96 := dF hb96; refine I.f Bt O O<|I.l 0 O O O O<|I.f Bt O O<|I.l 1 O O O O<|I.yb O (Y.neq O O) (fun b102 hb102 => I.k O O O<|I.k O O O<|I.k O O O<|I.k O O O<|Od O<|?_); cases b102
              ·replace hb102 := dF hb102; refine Wu O O<|Wk O<|Wr O<|I.j O O O (by omega)<|I.u O O<|Od O<|?_; have hst2 := (I.dr 2).perm hpx.symm; exact ⟨i + 1, ⟨O, trivial⟩, ⟨O, O, O, O, O, O, trivial⟩, ⟨by omega, hst2⟩, by omega⟩
              ·replace hb102 := dT hb102; exact absurd ((hsame hb74).2.2 hb90).2 hb102
             ·replace hb96 := dT hb96; exact absurd ((hsame hb74).2.2 hb90).1 hb96
           ·replace hb86 := dT hb86; exact absurd (hsame hb74).2.1 hb86
          ·replace hb80 := dT hb80; exact absurd (hsame hb74).1 hb80
  ·replace hb30 := dT hb30; refine Wt O O<|Wh O<|I.g O O<|Od O<|We O<|⟨_, Ac.one results4 O, ?_⟩; exact ⟨O, G, fun _ h => h, (I.dr 2)⟩
 ·replace hb26 := dT hb26; refine On O<|On O<|On O<|I.k O O O<|Od O<|Wt O O<|Wh O<|I.g O O<|Od O<|We O<|⟨_, Ac.one results4 O, ?_⟩; exact ⟨O, G, fun _ h => h, (I.dr 2)⟩
end
section
open Tryz Go.RowKit YtaanjifekgfemaaGreat.K YtaanjifekgfemaaGreat.W YtaanjifekgfemaaGreat.LN YtaanjifekgfemaaGreat.CM
structure SameStp (s s' : Stp) : Prop where
  ticks : s.ticks = s'.ticks
  ages : s.ages = s'.ages
  reads : s.reads = s'.reads
  lies : s.lies = s'.lies
theorem SameStp.symm {s s' : Stp} (h : SameStp s s') : SameStp s' s := ⟨h.ticks.symm, h.ages.symm, h.reads.symm, h.lies.symm⟩
structure Beat1 (c : Cs) (nd : Nat) (us0 us : List PU) (sd : List M) (s : Stp) (t : Int) : Prop where
  fits : Z4 c.p us0
  beats : Beats c.p s (Ai c.p.N.toNat nd) (Ft c nd) us0 us sd
  fair : Fair c.p t s
inductive Hist2 (c : Cs) (nd : Nat) : Nat → List PU → List M → Stp → List PU → List M → Stp → Int → Prop
  | one {us0 us us0' us' : List PU} {sd sd' : List M} {s s' : Stp} {t : Int} : us0.map (fun u => u.who) = Ai c.p.N.toNat nd → us0'.map (fun u => u.who) = Ai c.p.N.toNat nd → Beat1 c nd us0 us sd s t → Beat1 c nd us0' us' sd' s' t → TB t → SameStp s s' → Hist2 c nd 1 us sd s us' sd' s' (t + c.p.Beat)
  | next {b : Nat} {us0 us us0' us' : List PU} {sd0 sd sd0' sd' : List M} {s0 s s0' s' : Stp} {t : Int} : Hist2 c nd b us0 sd0 s0 us0' sd0' s0' t → Beat1 c nd us0 us sd s t → Beat1 c nd us0' us' sd' s' t → TB t → SameStp s s' → Hist2 c nd (b + 1) us sd s us' sd' s' (t + c.p.Beat)
theorem Hist2.fst {c : Cs} {nd b : Nat} {us us' : List PU} {sd sd' : List M} {s s' : Stp} {t : Int} (h : Hist2 c nd b us sd s us' sd' s' t) : Hist c nd b us sd s t := by
 induction h with
 | one h1 h2 h3 h4 h5 h6 => exact Hist.one h1 h3.fits h3.beats h3.fair h5
 | next h1 h3 h4 h5 h6 ih => exact Hist.next ih h3.fits h3.beats h3.fair h5
theorem Hist2.symm {c : Cs} {nd b : Nat} {us us' : List PU} {sd sd' : List M} {s s' : Stp} {t : Int} (h : Hist2 c nd b us sd s us' sd' s' t) : Hist2 c nd b us' sd' s' us sd s t := by
 induction h with
 | one h1 h2 h3 h4 h5 h6 => exact Hist2.one h2 h1 h4 h3 h5 h6.symm
 | next h1 h3 h4 h5 h6 ih => exact Hist2.next ih h4 h3 h5 h6.symm
theorem Hist2.snd {c : Cs} {nd b : Nat} {us us' : List PU} {sd sd' : List M} {s s' : Stp} {t : Int} (h : Hist2 c nd b us sd s us' sd' s' t) : Hist c nd b us' sd' s' t := h.symm.fst
theorem Hist2.last {c : Cs} {nd b : Nat} {us us' : List PU} {sd sd' : List M} {s s' : Stp} {t : Int} (h : Hist2 c nd b us sd s us' sd' s' t) : ∃ us0 us0' t0, us0.map (fun u => u.who) = Ai c.p.N.toNat nd ∧ us0'.map (fun u => u.who) = Ai c.p.N.toNat nd ∧ Beat1 c nd us0 us sd s t0 ∧ Beat1 c nd us0' us' sd' s' t0 ∧ SameStp s s' := by
 cases h with
 | one h1 h2 h3 h4 h5 h6 => exact ⟨_, _, _, h1, h2, h3, h4, h6⟩
 | next h1 h3 h4 h5 h6 => exact ⟨_, _, _, h1.fst.whos, h1.snd.whos, h3, h4, h6⟩
theorem Ay8 {c : Cs} {sl : Lst Sd} {fl : Lst Li} {nd : Nat} (hok : c.p.Ok) (hnd : nd ≤ 32) (ht : -1125899906842624 ≤ c.time ∧ c.time ≤ 1125899906842624) : ∀ (b : Nat) {x y : Wd} {n l n' l' : Nat}, RunT c nd (b + 1) x n l → RunT (fgD c sl fl) nd (b + 1) y n' l' → b + 1 ≤ 200 → (n' = n ∧ l' = l ∧ y.time = x.time) ∧ ∃ sd sd' s s', Hist2 c nd (b + 1) (puL x.ms) sd s (puL y.ms) sd' s' x.time := by
  have hTK : ∀ us n k, TKf (fgD c sl fl) us n k = TKf c us n k := fun _ _ _ => rfl; have hRL : ∀ us time n l k, RLf (fgD c sl fl) us time n l k = RLf c us time n l k := fun _ _ _ _ _ => rfl
  have same : ∀ {us : List Int} {time : Int} {n l : Nat} {s s' : Stp}, StpOf c us time n l s → StpOf (fgD c sl fl) us time n l s' → SameStp s s' := by
    intro us time n l s s' h h'; refine ⟨?_, ?_, ?_, ?_⟩
    · rw [h.ticks, h'.ticks, hTK]
    · rw [h.ages, h'.ages, hTK]
    · rw [h.reads, h'.reads, hTK, hRL]; rfl
    · rw [h.lies, h'.lies, hTK, hRL]; rfl
  have step : ∀ {b : Nat} {x x' y y' : Wd} {n l : Nat} {s s' : Stp} {G G' G1 G1' : List Res}, RunT c nd b x n l → RunT (fgD c sl fl) nd b y n l → b ≤ 200 → y.time = x.time → x.Ok c.p nd G → x'.Ok c.p nd G' → y.Ok c.p nd G1 → y'.Ok c.p nd G1' → StpOf c (Ai c.p.N.toNat nd) x.time n l s → StpOf (fgD c sl fl) (Ai c.p.N.toNat nd) x.time n l s' → StepW c.p s G G' x x' → StepW c.p s' G1 G1' y y' →
      ∃ sd sd', Beat1 c nd (puL x.ms) (puL x'.ms) sd s x.time ∧ Beat1 c nd (puL y.ms) (puL y'.ms) sd' s' x.time ∧ TB x.time ∧ SameStp s s' ∧ x'.time = x.time + c.p.Beat ∧ y'.time = x'.time := by
    intro b x x' y y' n l s s' G G' G1 G1' h h' hb he hx hx' hy hy' ho ho' hs hs'; have htb := h.tb hok ht hb; obtain ⟨sd, hbe⟩ := Sv hok hnd h hx hx' ho hs; obtain ⟨sd', hbe'⟩ := Sv (c := fgD c sl fl) hok hnd h' hy hy' (by rw [he]; exact ho') hs'; have ht1 := Uw hok htb hs; have ht2 := Uw hok (by rw [he]; exact htb) hs'; exact ⟨sd, sd', ⟨Yz hx, hbe, ho.fair hok⟩, ⟨Yz hy, hbe', ho'.fair (c := fgD c sl fl) hok⟩, htb, same ho ho', ht1, by rw [ht1, ht2, he]⟩
  intro b
  induction b with
  | zero =>
    intro x y n l n' l' h h' hb
    cases h with
    | step h hx hx' ho hs =>
      cases h' with
      | step h' hy hy' ho' hs' =>
        cases h with
        | start _ G0 h1 h2 h3 =>
          cases h' with
          | start _ G1 h4 h5 h6 =>
            have he := h5.trans h2.symm; rw [he] at ho'; obtain ⟨sd, sd', q1, q2, q3, q4, q5, q6⟩ := step (RunT.start _ G0 h1 h2 h3) (RunT.start _ G1 h4 h5 h6) (by omega) he hx hx' hy hy' ho ho' hs hs'; have r := Hist2.one (c := c) (nd := nd) (Y0 hx) (Y0 (p := c.p) hy) q1 q2 q3 q4; rw [← q5] at r; exact ⟨⟨by rw [he]; rfl, by rw [he]; rfl, q6⟩, sd, sd', _, _, r⟩
  | succ b ih =>
    intro x y n l n' l' h h' hb
    cases h with
    | step h hx hx' ho hs =>
      cases h' with
      | step h' hy hy' ho' hs' =>
        obtain ⟨⟨e1, e2, e3⟩, sd0, sd0', s0, s0', h0⟩ := ih h h' (by omega); subst e1; subst e2; rw [e3] at ho'; obtain ⟨sd, sd', q1, q2, q3, q4, q5, q6⟩ := step h h' (by omega) e3 hx hx' hy hy' ho ho' hs hs'; have r := Hist2.next h0 q1 q2 q3 q4; rw [← q5] at r; exact ⟨⟨by rw [e3]; rfl, by rw [e3]; rfl, q6⟩, sd, sd', _, _, r⟩
def Bn3 (R : M → M → Prop) (l l' : List (M × Int)) : Prop := l = l' ∨ ∃ m m' a, l = [(m, a)] ∧ l' = [(m', a)] ∧ R m m'
def U7 (R : Nat → M → M → Prop) (q q' : Qs) : Prop := ∀ f, f < 48 → ∀ age, Bn3 (R f) (Eh f age (q.getD f [])) (Eh f age (q'.getD f []))
theorem Af9 (f : Int) (l : Int × Int) (lies : List Li) : (∀ fr, Cm f fr l lies = fr) ∨ ∃ t, ∀ fr, Cm f fr l lies = t := by
  unfold Cm
  induction lies with
  | nil => exact .inl fun _ => rfl
  | cons x lies ih =>
    simp only [List.foldl_cons]
    by_cases hc : (x.from_ = l.1 ∧ x.to = l.2) ∧ f < 16
    · refine .inr ⟨_, fun fr => by rw [if_pos hc]⟩
    · rcases ih with ih | ⟨t, ih⟩
      · exact .inl fun fr => by rw [if_neg hc]; exact ih fr
      · exact .inr ⟨t, fun fr => by rw [if_neg hc]; exact ih fr⟩
theorem Ue {c : Cs} {nd : Nat} {us0 us us0' us' : List PU} {sd sd' : List M} {s s' : Stp} {t t' : Int} (hw : us0.map (fun u => u.who) = Ai c.p.N.toNat nd) (hw' : us0'.map (fun u => u.who) = Ai c.p.N.toNat nd) (h : Beat1 c nd us0 us sd s t) (h' : Beat1 c nd us0' us' sd' s' t') (hs : SameStp s s') {k : Nat} {u u' : PU} (hk : us[k]? = some u) (hk' : us'[k]? = some u') {R : Nat → M → M → Prop}
  (hR : ∀ (f j : Nat) (m m' : M), (Ai c.p.N.toNat nd)[j]? = some (f : Int) → sd[j]? = some m → sd'[j]? = some m' → R f m m') : U7 R u.qs u'.qs := by
 intro f hf age; have hl := h.beats.lane k u hk f hf; have hl' := h'.beats.lane k u' hk' f hf
 have hwu : u'.who = u.who := by
  have e1 := Dc (B8 h.beats hw) hk; have e2 := Dc (B8 h'.beats hw') hk'; rw [e1] at e2; injection e2 with e2; exact e2.symm
 by_cases hfw : (f : Int) ∈ Ai c.p.N.toNat nd
 ·obtain ⟨j, hj⟩ := List.getElem?_of_mem hfw; obtain ⟨v0, hv0, hv0w⟩ := D7 hw hj; obtain ⟨v0', hv0', hv0w'⟩ := D7 hw' hj; obtain ⟨_, m, _, hm, _, hmo, hmf⟩ := h.beats.one j v0 hv0; obtain ⟨_, m', _, hm', _, hmo', hmf'⟩ := h'.beats.one j v0' hv0'; rw [hl.2 j m hj hm, hl'.2 j m' hj hm', hwu]; unfold Nj; rw [← hs.lies]
  by_cases hlk : ((f : Int), u.who) ∈ Ft c nd
  ·rcases Af9 (f : Int) ((f : Int), u.who) s.lies with ht | ⟨tx, ht⟩
   ·rw [ht, ht, if_pos ⟨hlk, Q5 hmo⟩, if_pos ⟨hlk, Q5 hmo'⟩]; exact .inr ⟨m, m', age, Si hmo (hmf.trans hv0w) age 0, Si hmo' (hmf'.trans hv0w') age 0, hR f j m m' hj hm hm'⟩
   ·rw [ht, ht]; exact .inl rfl
  ·rw [if_neg (fun hx => hlk hx.1), if_neg (fun hx => hlk hx.1)]; exact .inl rfl
 ·rw [hl.1 hfw, hl'.1 hfw]; exact .inl rfl
theorem Ox {β : Type} {R : Nat → M → M → Prop} {q q' : Qs} (h : U7 R q q') (age : Nat → Int) {p : M × Int → Bool} {g : M × Int → β} (hp : ∀ (f : Nat) (m m' : M) (a : Int), R f m m' → p (m, a) = p (m', a) ∧ (p (m, a) = true → g (m, a) = g (m', a))) :
  ((Bj q age 48).filter p).map g = ((Bj q' age 48).filter p).map g := by
 unfold Bj; rw [List.filter_flatMap, List.map_flatMap, List.filter_flatMap, List.map_flatMap]
 have key : ∀ f ∈ List.range 48, ((Eh f (age f) (q.getD f [])).filter p).map g = ((Eh f (age f) (q'.getD f [])).filter p).map g := by
  intro f hf; rcases h f (List.mem_range.1 hf) (age f) with e | ⟨m, m', a, e1, e2, hr⟩
  ·rw [e]
  ·obtain ⟨h1, h2⟩ := hp f m m' a hr; rw [e1, e2, List.filter_cons, List.filter_cons, ← h1]
   by_cases hc : p (m, a) = true
   ·rw [if_pos hc, if_pos hc]; simp only [List.filter_nil, List.map_cons, List.map_nil]; rw [h2 hc]
   ·rw [if_neg hc, if_neg hc]
 rw [List.flatMap_def, List.flatMap_def]
 congr 1
 exact List.map_congr_left key
def Bi6 (m m' : M) : Prop := m.kind = m'.kind ∧ m.from_ = m'.from_ ∧ m.ref = m'.ref ∧ m.elo = m'.elo ∧ m.ehi = m'.ehi
def Bi7 (m m' : M) : Prop := m.kind = m'.kind ∧ m.from_ = m'.from_ ∧ (m.slo = m'.slo ∧ m.shi = m'.shi) ∧ m.held = m'.held ∧ m.hops = m'.hops ∧ m.good = m'.good
def Qm (s s' : Stt) : Prop := (s.lo = s'.lo ∧ s.hi = s'.hi) ∧ s.held = s'.held ∧ s.hops = s'.hops ∧ s.good = s'.good
theorem Qm.symm {s s' : Stt} (h : Qm s s') : Qm s' s := ⟨⟨h.1.1.symm, h.1.2.symm⟩, h.2.1.symm, h.2.2.1.symm, h.2.2.2.symm⟩
theorem Y8 {p : Par} {s s' : Stp} (hs : SameStp s s') {who : Int} {qs qs' : Qs} {i i' : Inp} (h : InpOf p s who qs i) (h' : InpOf p s' who qs' i') : (Fd p i ↔ Fd p i') ∧ i.reading = i'.reading := by
 have e1 : i.ref = i'.ref := by rw [h.ref, h'.ref, hs.ticks, hs.reads]
 have e2 : i.reading = i'.reading := by rw [h.reading, h'.reading, hs.ticks, hs.reads]
 unfold Fd; rw [e1, e2]; exact ⟨Iff.rfl, rfl⟩
theorem A1z {p : Par} {s s' : Stp} (hs : SameStp s s') {u u' v v' : PU} {m m' : M} (h : One p s u v m) (h' : One p s' u' v' m') (hw : u'.who = u.who) (hg : u.who < 16) : Bi6 m m' := by
 obtain ⟨i, hi, hb⟩ := h.inp; obtain ⟨i', hi', hb'⟩ := h'.inp; rw [hw] at hi'; obtain ⟨r1, r2⟩ := Y8 hs hi hi'
 have e1 : Ex p i = Ex p i' := by
  unfold Ex; rw [r2]
  by_cases hc : Fd p i
  ·rw [if_pos hc, if_pos (r1.1 hc)]
  ·rw [if_neg hc, if_neg (fun h => hc (r1.2 h))]
 have e2 : decide (Fd p i) = decide (Fd p i') := decide_eq_decide.2 r1; rcases hb with ⟨_, _, _, rfl⟩ | ⟨hx, _⟩
 ·rcases hb' with ⟨_, _, _, rfl⟩ | ⟨hx, _⟩
  ·exact ⟨rfl, hw.symm, e2, congrArg Sp.lo e1, congrArg Sp.hi e1⟩
  ·exact absurd (by rw [hw]; exact hg) hx
 ·exact absurd hg hx
theorem Aez {p : Par} {s s' : Stp} (hs : SameStp s s') {who : Int} {qs qs' : Qs} {i i' : Inp} (h : InpOf p s who qs i) (h' : InpOf p s' who qs' i') : Ca p i = Ca p i' := by
 obtain ⟨r1, r2⟩ := Y8 hs h h'; unfold Ca; rw [r2]
 by_cases hc : Fd p i
 ·rw [if_pos hc, if_pos (r1.1 hc)]
 ·rw [if_neg hc, if_neg (fun h => hc (r1.2 h))]
theorem Ns {c : Cs} {nd : Nat} {us us' : List PU} (h : us.map (fun u => u.who) = Ai c.p.N.toNat nd) (h' : us'.map (fun u => u.who) = Ai c.p.N.toNat nd) {k : Nat} {u u' : PU} (hk : us[k]? = some u) (hk' : us'[k]? = some u') : u'.who = u.who := by
 have e1 := Dc h hk; have e2 := Dc h' hk'; rw [e1] at e2; injection e2 with e2; exact e2.symm
theorem T4 {c : Cs} {nd b : Nat} (hok : c.p.Ok) (hnd : nd ≤ 32) {us us' : List PU} {sd sd' : List M} {s s' : Stp} {t : Int} (h : Hist2 c nd b us sd s us' sd' s' t) (hb : 2 ≤ b) : ∀ (k : Nat) (u u' : PU), us[k]? = some u → us'[k]? = some u' → u.who < 16 → Qm u.s u'.s := by
  cases h with
  | one => omega
  | @next b vs us vs' us' sd0 sd sd0' sd' s0 s s0' s' t h0 hb1 hb2 ht hs =>
    intro k u u' hk hk' hw; obtain ⟨v, hv, hvw⟩ := D7 h0.fst.whos (Dc (B8 hb1.beats h0.fst.whos) hk); obtain ⟨v', hv', hvw'⟩ := D7 h0.snd.whos (Dc (B8 hb2.beats h0.snd.whos) hk'); obtain ⟨u2, m, hu2, _, hone, _⟩ := hb1.beats.one k v hv; rw [hk] at hu2; injection hu2 with hu2; subst hu2; obtain ⟨u2, m', hu2, _, hone', _⟩ := hb2.beats.one k v' hv'; rw [hk'] at hu2; injection hu2 with hu2; subst hu2; have hwv : v'.who = v.who := Ns h0.fst.whos h0.snd.whos hv hv'; have hw1 : v.who < 16 := by rw [hvw]; exact hw
    obtain ⟨⟨a1, a2, a3, _⟩, i, hi, a4, a5⟩ := N6 hok hnd h0.fst hb1.beats hb1.fair ht hv hk hone hw1; obtain ⟨⟨b1, b2, b3, _⟩, i', hi', b4, b5⟩ := N6 hok hnd h0.snd hb2.beats hb2.fair ht hv' hk' hone' (by rw [hwv]; exact hw1); rw [hwv] at hi' b4 b5; obtain ⟨us0, us0', t0, w1, w2, c1, c2, hs0⟩ := h0.last
    have hla := Ue w1 w2 c1 c2 hs0 hv hv' (R := fun f m m' => (f : Int) < 16 → Bi6 m m') (fun f j m m' hj hm hm' hf => by
      obtain ⟨x, hx, hxw⟩ := D7 w1 hj; obtain ⟨x', hx', hxw'⟩ := D7 w2 hj; obtain ⟨_, m2, _, hm2, ho2, _⟩ := c1.beats.one j x hx; obtain ⟨_, m3, _, hm3, ho3, _⟩ := c2.beats.one j x' hx'; rw [hm] at hm2; injection hm2 with hm2; subst hm2; rw [hm'] at hm3; injection hm3 with hm3; subst hm3
      exact A1z hs0 ho2 ho3 (by rw [hxw, hxw']) (by rw [hxw]; exact hf))
    have hsp : Ck c.p v.who i = Ck c.p v.who i' := by
      have hth := c1.beats.thin w1 hv; have hth' := c2.beats.thin w2 hv'; have n1 : (i.heard.map ma).Pairwise fun a b => a.1.from_ ≠ b.1.from_ := by rw [hi.heard]; exact Gk hth _ 48 (Nat.le_refl _)
      have n2 : (i'.heard.map ma).Pairwise fun a b => a.1.from_ ≠ b.1.from_ := by rw [hi'.heard]; exact Gk hth' _ 48 (Nat.le_refl _)
      rw [J1 n1, J1 n2, Aez hs hi hi', hi.heard, hi'.heard, ← hs.ages]
      congr 1
      unfold Ai3
      have hrow : U7 (fun f m m' => (m.from_ = (f : Int) ∧ m'.from_ = (f : Int)) ∧ ((f : Int) < 16 → Bi6 m m')) v.qs v'.qs := by
        intro f hf age; rcases hla f hf age with e | ⟨m1, m2, a, r1, r2, hr⟩
        · exact .inl e
        · exact .inr ⟨m1, m2, a, r1, r2, ⟨(Nl (y := (m1, a)) (by rw [r1]; exact .head _)).1, (Nl (y := (m2, a)) (by rw [r2]; exact .head _)).1⟩, hr⟩
      refine Ox hrow _ fun f m1 m2 a hr => ?_; obtain ⟨⟨f1, f2⟩, hr⟩ := hr
      by_cases hf : (f : Int) < 16
      · obtain ⟨g1, g2, g3, g4, g5⟩ := hr hf; refine ⟨decide_eq_decide.2 ?_, fun _ => ?_⟩
        · unfold tkM; dsimp only; rw [g1, g2, g3]
        · unfold Bf5; dsimp only; rw [g4, g5]
      · have q1 : ¬ (tkM c.p v.who (m1, a) ∧ m1.ref = true) := fun hx => by have := hx.1.2.2.1; dsimp only at this; omega
        have q2 : ¬ (tkM c.p v.who (m2, a) ∧ m2.ref = true) := fun hx => by have := hx.1.2.2.1; dsimp only at this; omega
        rw [decide_eq_false q1, decide_eq_false q2]; exact ⟨rfl, fun h => by cases h⟩
    rw [← hsp] at b4 b5; exact ⟨⟨a4.trans b4.symm, a5.trans b5.symm⟩, a3.trans b3.symm, a2.trans b2.symm, a1.trans b1.symm⟩
theorem A53 {c : Cs} {nd b : Nat} (hok : c.p.Ok) {us us' : List PU} {sd sd' : List M} {s s' : Stp} {t : Int} (h : Hist2 c nd b us sd s us' sd' s' t) {j : Nat} {u u' : PU} (hu : us[j]? = some u) (hu' : us'[j]? = some u') (hsm : Qm u.s u'.s) {m m' : M} (hm : sd[j]? = some m) (hm' : sd'[j]? = some m') : Bi7 m m' := by
 obtain ⟨us0, us0', t0, w1, w2, c1, c2, hs0⟩ := h.last; obtain ⟨x, hx, hxw⟩ := D7 w1 (Dc (B8 c1.beats w1) hu); obtain ⟨x', hx', hxw'⟩ := D7 w2 (Dc (B8 c2.beats w2) hu'); obtain ⟨y, m2, hy, hm2, ho2, _⟩ := c1.beats.one j x hx; obtain ⟨y', m3, hy', hm3, ho3, _⟩ := c2.beats.one j x' hx'; rw [hm] at hm2; injection hm2 with hm2; subst hm2; rw [hm'] at hm3; injection hm3 with hm3; subst hm3; rw [hu] at hy; injection hy with hy; subst hy; rw [hu'] at hy'; injection hy' with hy'; subst hy'; obtain ⟨sa, k1, k2⟩ := ho2.says; obtain ⟨sa', k1', k2'⟩ := ho3.says; have hww : u'.who = u.who := Ns h.fst.whos h.snd.whos hu hu'; obtain ⟨⟨e1, e2⟩, e3, e4, e5⟩ := hsm; refine ⟨?_, by rw [sa.from_, sa'.from_, hww], ⟨by rw [sa.slo, sa'.slo, e1], by rw [sa.shi, sa'.shi, e2]⟩, by rw [sa.held, sa'.held, e3], by rw [sa.hops, sa'.hops, e4], by rw [sa.good, sa'.good, e5]⟩
 by_cases hg : u.who < 16
 ·rw [k1 (by omega), k1' (by omega)]
 ·rw [k2 (by omega), k2' (by omega)]
theorem Aw6 {c : Cs} {nd b : Nat} (hok : c.p.Ok) (hnd : nd ≤ 32) {us us' : List PU} {sd sd' : List M} {s s' : Stp} {t : Int} (h : Hist2 c nd b us sd s us' sd' s' t) (hb : 2 ≤ b) {r r' : Stp} (hr : SameStp r r') {k : Nat} {u u' : PU} (hk : us[k]? = some u) (hk' : us'[k]? = some u') {out out' : List Hd}
  (ho : out.map ma = (Bj u.qs (Az c.p u.who r.ages) 48).filter (fun y => decide (knM u.es y))) (ho' : out'.map ma = (Bj u'.qs (Az c.p u'.who r'.ages) 48).filter (fun y => decide (knM u'.es y))) :
  Gu c.p out = Gu c.p out' ∧ (G6 c.p out).map Cq = (G6 c.p out').map Cq := by
 obtain ⟨us0, us0', t0, w1, w2, c1, c2, hs0⟩ := h.last; have hww : u'.who = u.who := Ns h.fst.whos h.snd.whos hk hk'; have hne := Gk (c1.beats.thin w1 hk) (Az c.p u.who r.ages) 48 (Nat.le_refl _); have hne' := Gk (c2.beats.thin w2 hk') (Az c.p u'.who r'.ages) 48 (Nat.le_refl _); obtain ⟨e1, e2⟩ := Pz (p := c.p) (Wl hne ho); obtain ⟨e3, e4⟩ := Pz (p := c.p) (Wl hne' ho'); rw [ho, H9 hok] at e1 e2; rw [ho', H9 hok, hww, ← hr.ages] at e3 e4
 have hla := Ue w1 w2 c1 c2 hs0 hk hk' (R := fun f m m' => (f : Int) < 16 → Bi7 m m') (fun f j m m' hj hm hm' hf => by
  obtain ⟨x, hx, hxw⟩ := D7 h.fst.whos hj; obtain ⟨x', hx', hxw'⟩ := D7 h.snd.whos hj
  exact A53 hok h hx hx' (T4 hok hnd h hb j x x' hx hx' (by rw [hxw]; exact hf)) hm hm')
 have hrow : U7 (fun f m m' => (m.from_ = (f : Int) ∧ m'.from_ = (f : Int)) ∧ ((f : Int) < 16 → Bi7 m m')) u.qs u'.qs := by
  intro f hf age; rcases hla f hf age with e | ⟨m1, m2, a, r1, r2, hr⟩
  ·exact .inl e
  ·exact .inr ⟨m1, m2, a, r1, r2, ⟨(Nl (y := (m1, a)) (by rw [r1]; exact .head _)).1, (Nl (y := (m2, a)) (by rw [r2]; exact .head _)).1⟩, hr⟩
 have far : ∀ (f : Nat) (m1 : M) (a : Int), m1.from_ = (f : Int) → ¬ (f : Int) < 16 → decide (tkM c.p (-1) (m1, a) ∧ Il (m1, a)) = false := by
  intro f m1 a hf h16; exact decide_eq_false fun hx => by have := hx.1.2.2.1; dsimp only at this; omega
 rw [e1, e2, e3, e4]; unfold Ls; refine ⟨Ox hrow _ fun f m1 m2 a hq => ?_, Ox hrow _ fun f m1 m2 a hq => ?_⟩
 ·obtain ⟨⟨f1, f2⟩, hq⟩ := hq
  by_cases hf : (f : Int) < 16
  ·obtain ⟨g1, g2, ⟨g3, g4⟩, g5, g6, g7⟩ := hq hf; refine ⟨decide_eq_decide.2 ?_, fun _ => ?_⟩
   ·unfold tkM Il; dsimp only; rw [g1, g2, g3, g4, g7]
   ·unfold Bf6; dsimp only; rw [g3, g4]
  ·rw [far f m1 a f1 hf, far f m2 a f2 hf]; exact ⟨rfl, fun h => by cases h⟩
 ·obtain ⟨⟨f1, f2⟩, hq⟩ := hq
  by_cases hf : (f : Int) < 16
  ·obtain ⟨g1, g2, ⟨g3, g4⟩, g5, g6, g7⟩ := hq hf; refine ⟨decide_eq_decide.2 ?_, fun _ => g5⟩; unfold tkM Il; dsimp only; rw [g1, g2, g3, g4, g7]
  ·rw [far f m1 a f1 hf, far f m2 a f2 hf]; exact ⟨rfl, fun h => by cases h⟩
theorem Tz {c : Cs} {nd b : Nat} (hok : c.p.Ok) (hnd : nd ≤ 32) (hws : (Ai c.p.N.toNat nd).length ≤ 15) {us : List PU} {sd : List M} {s r : Stp} {t : Int} (h : Hist c nd b us sd s t) (hb : 5 ≤ b) (hfit : Z4 c.p us) {k : Nat} {u : PU} (hk : us[k]? = some u) (hw : ¬ u.who < 16) {out : List Hd}
  (ho : out.map ma = (Bj u.qs (Az c.p u.who r.ages) 48).filter (fun y => decide (knM u.es y))) {j : Nat} {v : PU} {f : Nat} (hj : us[j]? = some v) (hv : v.who = (f : Int)) (hf : 16 ≤ (f : Int)) (hl : ((f : Int), u.who) ∈ Ft c nd) (hg : v.s.good = true) (hh : 0 ≤ v.s.hops ∧ v.s.hops < c.p.D)
  (hsp : ¬ (way c.p ⟨v.s.lo, v.s.hi⟩ (Az c.p u.who r.ages f)).hi < (way c.p ⟨v.s.lo, v.s.hi⟩ (Az c.p u.who r.ages f)).lo) :
  ∃ y ∈ Cg c.p out, C6 c.p y.m ∧ y.m.hops = v.s.hops ∧ y.m.held = v.s.held ∧ y.m.from_ = (f : Int) := by
 have hjw := Dc h.whos hj; rw [hv] at hjw
 have hf48 : f < 48 := by
  have := Btq hok hnd _ (List.mem_of_getElem? hjw); omega
 obtain ⟨u0, vv, mf, t1, hv2, hvw2, hu0w, hmf, honef, _, _, _, hrow⟩ := X3 hok hnd h hk (f := f) hjw hf48 hl (.inl hf) (Az c.p u.who r.ages f); rw [hj] at hv2; injection hv2 with hv2; subst hv2; obtain ⟨sa, _, sk2⟩ := honef.says; have hcnt := Ba3 hok hnd hws h hb hk hw (f := f) hjw hf48 hf hl; have hfrom : mf.from_ = (f : Int) := sa.from_.trans hv
 have hmem : (mf, Az c.p u.who r.ages f) ∈ out.map ma := by
  rw [ho]; refine List.mem_filter.2 ⟨T7 (f := f) hf48 (by rw [hrow]; exact .head _), decide_eq_true (.inr ⟨sk2 (by omega), ?_, ?_⟩)⟩
  ·show 16 ≤ mf.from_; omega
  ·show 0 < (Cf u.es mf.from_).1; rw [hfrom]; exact hcnt
 obtain ⟨hd, hhd, hma⟩ := List.mem_map.1 hmem; have e1 : hd.m = mf := congrArg Prod.fst hma; have e2 : hd.age = Az c.p u.who r.ages f := congrArg Prod.snd hma; have hft := (hfit v (List.mem_of_getElem? hj)).1.span; refine ⟨Oy c.p hd, R2.2 ⟨hd, hhd, by rw [e1, sa.slo, sa.shi]; omega, rfl⟩, ⟨?_, ?_, ?_, ?_, ?_⟩, ?_, ?_, ?_⟩
 ·show hd.m.kind = 2; rw [e1]; exact sk2 (by omega)
 ·show hd.m.good = true; rw [e1, sa.good]; exact hg
 ·show 0 ≤ hd.m.hops; rw [e1, sa.hops]; exact hh.1
 ·show hd.m.hops < c.p.D; rw [e1, sa.hops]; exact hh.2
 ·show ¬ (way c.p ⟨hd.m.slo, hd.m.shi⟩ hd.age).hi < (way c.p ⟨hd.m.slo, hd.m.shi⟩ hd.age).lo; rw [e1, e2, sa.slo, sa.shi]; exact hsp
 ·show hd.m.hops = _; rw [e1, sa.hops]
 ·show hd.m.held = _; rw [e1, sa.held]
 ·show hd.m.from_ = _; rw [e1, hfrom]
def W6 (b : Nat) (us us' : List PU) : Prop := ∀ (k : Nat) (u u' : PU), us[k]? = some u → us'[k]? = some u' → ¬ u.who < 16 → u.s.good = true → u.s.hops ≤ (b : Int) - 5 → Qm u.s u'.s
theorem Yt {c : Cs} {nd b : Nat} (hok : c.p.Ok) (hnd : nd ≤ 32) (hws : (Ai c.p.N.toNat nd).length ≤ 15) (hb4 : 4 ≤ b) {us us' vs vs' : List PU} {sd sd' sd1 sd1' : List M} {s s' r r' : Stp} {t : Int} (h : Hist2 c nd b us sd s us' sd' s' t) (hb1 : Beat1 c nd us vs sd1 r t) (hb2 : Beat1 c nd us' vs' sd1' r' t) (ht : TB t) (hr : SameStp r r')
    (ih : 5 ≤ b → W6 b us us' ∧ W6 b us' us) : W6 (b + 1) vs vs' := by
  intro k v v' hv hv' hw hgood hhops; have hTB := ht; unfold TB at hTB; have hB := hok.Beat; have hD := hok.D; have hgN := O8 hok; have hhN := He hok; obtain ⟨u, hu, hwu⟩ := D7 h.fst.whos (Dc (B8 hb1.beats h.fst.whos) hv); obtain ⟨u', hu', hwu'⟩ := D7 h.snd.whos (Dc (B8 hb2.beats h.snd.whos) hv'); obtain ⟨u2, m, hu2, _, hone, _⟩ := hb1.beats.one k u hu; rw [hv] at hu2; injection hu2 with hu2; subst hu2; obtain ⟨u2, m', hu2, _, hone', _⟩ := hb2.beats.one k u' hu'; rw [hv'] at hu2; injection hu2 with hu2; subst hu2; have hww : u'.who = u.who := Ns h.fst.whos h.snd.whos hu hu'; have hw1 : ¬ u.who < 16 := by rw [hwu]; exact hw
  have hw2 : ¬ u'.who < 16 := by rw [hww]; exact hw1
  obtain ⟨out, tab, ho, hs, _⟩ := Lk hok hnd hws hb4 h.fst hb1.fits hb1.beats hu hone hw1; obtain ⟨out', tab', ho', hs', _⟩ := Lk hok hnd hws hb4 h.snd hb2.fits hb2.beats hu' hone' hw2; obtain ⟨c1, c2⟩ := Aw6 hok hnd h (by omega) hr hu hu' ho ho'
  by_cases hco : V5 c u.who
  · obtain ⟨k1, k2, k3, k4⟩ := Nx hok hnd (by omega) h.fst hb1.fair ht hu hw1 hco ho; obtain ⟨k5, k6, k7, k8⟩ := Nx hok hnd (by omega) h.snd hb2.fair ht hu' hw2 (by rw [hww]; exact hco) ho'; obtain ⟨g1, g2, g3, g4, g5⟩ := (Hn hok out u.s _ tab hs (by omega) (by omega) (fun _ => k2) ⟨k3, by omega⟩).1 k1; obtain ⟨g1', g2', g3', g4', g5'⟩ := (Hn hok out' u'.s _ tab' hs' (by omega) (by omega) (fun _ => k6) ⟨k7, by omega⟩).1 k5; exact ⟨⟨by rw [g3, g3', c1], by rw [g4, g4', c1]⟩, by rw [g5, g5', c2], by rw [g2, g2'], by rw [g1, g1']⟩
  · have hnc := L8 hok h.fst hu hw1 hco ho; have hnc' := L8 hok h.snd hu' hw2 (by rw [hww]; exact hco) ho'
    have hhv : ∀ l : List Int, 0 ≤ Gl c.p.F l ∧ Gl c.p.F l ≤ 1073741824 := by
      intro l; unfold Gl; split
      · exact K1 _
      · decide
    obtain ⟨_, w2, w3⟩ := Hn hok out u.s _ tab hs (t := 0) (r := 0) (by decide) (by decide) (fun hx => absurd hx hnc) (hhv _); obtain ⟨_, w2', w3'⟩ := Hn hok out' u'.s _ tab' hs' (t := 0) (r := 0) (by decide) (by decide) (fun hx => absurd hx hnc') (hhv _); have hages : Az c.p u'.who r'.ages = Az c.p u.who r.ages := by rw [hww, hr.ages]
    cases hch : B2 c.p (Cg c.p out) with
    | none =>
      obtain ⟨g1, _⟩ := w3 hnc hch; rw [hgood] at g1; cases g1
    | some x =>
      obtain ⟨g1, g2, g3, g4, g5⟩ := w2 hnc x hch; obtain ⟨hmem, hus, best⟩ := (choose_spec c.p (Cg c.p out)).2 x hch; obtain ⟨j, w, mw, f, hjw, hwf, hf16, hl, hfr, sa, _, hxm⟩ := Kt hok hnd h.fst hu ho hmem hus; have xh : x.m.hops = w.s.hops := by rw [hxm]; exact sa.hops
      have xd : x.m.held = w.s.held := by rw [hxm]; exact sa.held
      have xf : x.m.from_ = (f : Int) := by rw [hxm]; exact hfr
      have xg : w.s.good = true := by rw [← sa.good]; have := hus.2.1; rw [hxm] at this; exact this
      have xlo : x.m.slo = (way c.p ⟨w.s.lo, w.s.hi⟩ (Az c.p u.who r.ages f)).lo := by rw [hxm]; dsimp only; rw [sa.slo, sa.shi]
      have xhi : x.m.shi = (way c.p ⟨w.s.lo, w.s.hi⟩ (Az c.p u.who r.ages f)).hi := by rw [hxm]; dsimp only; rw [sa.slo, sa.shi]
      have hus3 := hus.2.2.1; have hus4 := hus.2.2.2.1; have hus5 := hus.2.2.2.2; rw [xlo, xhi] at hus5; have hb5 : 5 ≤ b := by push_cast at hhops; omega
      obtain ⟨ih1, ih2⟩ := ih hb5; obtain ⟨w', hwt, hwf'⟩ := D7 h.snd.whos (Dc h.fst.whos hjw); rw [hwf] at hwf'; have hsm := ih1 j w w' hjw hwt (by rw [hwf]; omega) xg (by push_cast at hhops; omega); obtain ⟨⟨a1, a2⟩, a3, a4, a5⟩ := hsm; obtain ⟨y, hy, yu, yh, yd, yf⟩ := Tz hok hnd hws h.snd hb5 hb2.fits hu' hw2 ho' hwt hwf' hf16 (by rw [hww]; exact hl) (by rw [← a5]; exact xg) (by rw [← a4]; omega) (by rw [← a1, ← a2, hages]; exact hus5)
      cases hch' : B2 c.p (Cg c.p out') with
      | none => exact absurd yu ((choose_spec c.p (Cg c.p out')).1 hch' y hy)
      | some x' =>
        obtain ⟨g1', g2', g3', g4', g5'⟩ := w2' hnc' x' hch'; obtain ⟨hmem', hus', best'⟩ := (choose_spec c.p (Cg c.p out')).2 x' hch'; obtain ⟨j', z', mz, f', hjz, hzf, hf16', hl', hfr', sa', _, hxm'⟩ := Kt hok hnd h.snd hu' ho' hmem' hus'; have zh : x'.m.hops = z'.s.hops := by rw [hxm']; exact sa'.hops
        have zd : x'.m.held = z'.s.held := by rw [hxm']; exact sa'.held
        have zf : x'.m.from_ = (f' : Int) := by rw [hxm']; exact hfr'
        have zg : z'.s.good = true := by rw [← sa'.good]; have := hus'.2.1; rw [hxm'] at this; exact this
        have zlo : x'.m.slo = (way c.p ⟨z'.s.lo, z'.s.hi⟩ (Az c.p u'.who r'.ages f')).lo := by rw [hxm']; dsimp only; rw [sa'.slo, sa'.shi]
        have zhi : x'.m.shi = (way c.p ⟨z'.s.lo, z'.s.hi⟩ (Az c.p u'.who r'.ages f')).hi := by rw [hxm']; dsimp only; rw [sa'.slo, sa'.shi]
        have huz3 := hus'.2.2.1; have huz4 := hus'.2.2.2.1; have huz5 := hus'.2.2.2.2; rw [zlo, zhi] at huz5; have hb1' := best' y hy yu; have hle : x'.m.hops ≤ x.m.hops := by unfold lx at hb1'; omega
        obtain ⟨z, hzt, hzf'⟩ := D7 h.fst.whos (Dc h.snd.whos hjz); rw [hzf] at hzf'; have hsm' := ih2 j' z' z hjz hzt (by rw [hzf]; omega) zg (by push_cast at hhops; omega); obtain ⟨⟨d1, d2⟩, d3, d4, d5⟩ := hsm'; obtain ⟨y1, hy1, yu1, yh1, yd1, yf1⟩ := Tz hok hnd hws h.fst hb5 hb1.fits hu hw1 ho hzt hzf' hf16' (by rw [← hww]; exact hl') (by rw [← d5]; exact zg) (by rw [← d4]; omega) (by rw [← d1, ← d2, ← hages]; exact huz5); have hb2' := best y1 hy1 yu1; have heq : f = f' := by unfold lx at hb1' hb2'; omega
        have hjj : j = j' := by
          have q1 := Dc h.fst.whos hjw; have q2 := Dc h.fst.whos hzt; rw [hwf] at q1; rw [hzf', ← heq] at q2; exact R5 (Yr hok nd) q1 q2
        subst hjj; subst heq; rw [hwt] at hjz; injection hjz with hjz; subst hjz; refine ⟨⟨?_, ?_⟩, ?_, ?_, by rw [g1, g1']⟩
        · rw [g3, g3', xlo, zlo, hages, a1, a2]
        · rw [g4, g4', xhi, zhi, hages, a1, a2]
        · rw [g5, g5', xd, zd, a3]
        · rw [g2, g2', xh, zh, a4]
theorem Ar1 {c : Cs} {nd b : Nat} (hok : c.p.Ok) (hnd : nd ≤ 32) (hws : (Ai c.p.N.toNat nd).length ≤ 15) {us us' : List PU} {sd sd' : List M} {s s' : Stp} {t : Int} (h : Hist2 c nd b us sd s us' sd' s' t) : 5 ≤ b → W6 b us us' ∧ W6 b us' us := by
  induction h with
  | one => intro hb; omega
  | next h0 hb1 hb2 ht hs ih =>
    intro hb; exact ⟨Yt hok hnd hws (by omega) h0 hb1 hb2 ht hs ih, Yt hok hnd hws (by omega) h0.symm hb2 hb1 ht hs.symm fun h5 => (ih h5).symm⟩
theorem Bn5 {c : Cs} {sl : Lst Sd} {fl : Lst Li} {beats : Int} {nd b : Nat} {x y : Wd} {n l n' l' : Nat} (hs : c.Small beats) (hnd : c.nodes = (nd : Int)) (hb : (settle c.p).toNat ≤ b) (hb2 : b ≤ 200) (h : RunT c nd b x n l) (h' : RunT (fgD c sl fl) nd b y n' l') : Bfq c.p x y := by
  have hok := hs.ok; have hn6 := Sq hs hnd; have hnd2 : nd ≤ 32 := by omega
  have hN := hok.N; have hN7 := hs.N; have hD := hok.D; have hws : (Ai c.p.N.toNat nd).length ≤ 15 := by rw [Eu]; omega
  obtain ⟨q, q0, q1, q2, q3⟩ := Asq hok hs.settle; obtain ⟨b', rfl⟩ : ∃ b', b = b' + 1 := ⟨b - 1, by omega⟩; obtain ⟨_, sd, sd', s, s', hh⟩ := Ay8 hok hnd2 hs.time b' h h' (by omega)
  have pu : ∀ {z : Wd} {k : Nat} {m : UM}, z.ms[k]? = some m → (puL z.ms)[k]? = some m.u := by
    intro z k m hm; unfold puL; rw [List.getElem?_map, hm]; rfl
  intro k m m' hm hm' _; have hw := Ns hh.fst.whos hh.snd.whos (pu hm) (pu hm'); have key : Qm m.u.s m'.u.s → Bfz m.u.s m'.u.s := fun h => ⟨h.2.2.1, h.2.2.2, fun _ => ⟨h.1, h.2.1⟩⟩
  by_cases hg : m.u.who < 16
  · exact key (T4 hok hnd2 hh (by omega) k _ _ (pu hm) (pu hm') hg)
  · obtain ⟨n1, n2⟩ := Ar1 hok hnd2 hws hh (by omega); obtain ⟨t1, t2, _⟩ := Ug hok hnd2 hws hh.fst (by omega) k _ (pu hm) hg; obtain ⟨t3, t4, _⟩ := Ug hok hnd2 hws hh.snd (by omega) k _ (pu hm') (by rw [hw]; exact hg)
    cases hgo : m.u.s.good with
    | true =>
      have := t1 hgo; exact key (n1 k _ _ (pu hm) (pu hm') hg hgo (by omega))
    | false =>
      cases hgo' : m'.u.s.good with
      | true =>
        have := t3 hgo'; exact key (n2 k _ _ (pu hm') (pu hm) (by rw [hw]; exact hg) hgo' (by omega)).symm
      | false => exact ⟨(t2 hgo).trans (t4 hgo').symm, hgo.trans hgo'.symm, fun hx => by rw [hgo] at hx; cases hx⟩
end
end Go.Proofs.YtaanjifekgfemaaGreat.Cl
namespace Go.Proofs.YtaanjifekgfemaaGreat.Op
section
open Tryz Go.RowKit YtaanjifekgfemaaGreat.K YtaanjifekgfemaaGreat.W YtaanjifekgfemaaGreat.Cl
theorem Ba4 {w : World} {c : Cs} (hc : Z0 w c) {s : SlOf Sd} (hs : Jt w sdC (fun a => Jt w Aq (fun y => Bz y.1 ∧ Bz y.2) ⟨a.s.tab, a.A, a.cap⟩) s) {f : SlOf Li} (hf : Jt w liC (fun a => a.text.size ≤ 140737488355328) f) : Z0 w (fgD c ⟨s.l, s.A, s.cap⟩ ⟨f.l, f.A, f.cap⟩) :=
 ⟨hc.1, hc.2.1, hs, hf, hc.2.2.2.2⟩
theorem Xs {w : World} (hsh : w.ShapedOpen Tryz.prog) {c : Cs} (hc : Z0 w c) {s : SlOf Sd} (hs : Jt w sdC (fun a => Jt w Aq (fun y => Bz y.1 ∧ Bz y.2) ⟨a.s.tab, a.A, a.cap⟩) s) {f : SlOf Li} (hf : Jt w liC (fun a => a.text.size ≤ 140737488355328) f) (beats : Int) : Calls Tryz.prog 4 #[.agg (csC c).toArray, .slice s.A s.l.length s.cap, .slice f.A f.l.length f.cap, .int .i64 beats] w fun e w' => e = .returned (.bool true) ∧ Below w.heap.size w w' := by
 obtain ⟨tbl, htl, hk⟩ := Bm4 hsh; have hd := Ba4 hc hs hf
 have I := Af2 (w := w) (Gw tbl :: (csF c ++ csF (fgD c ⟨s.l, s.A, s.cap⟩ ⟨f.l, f.A, f.cap⟩))) (by
  intro r hr; rcases List.mem_cons.1 hr with rfl | hr
  ·exact hk
  rcases List.mem_append.1 hr with hr | hr
  ·exact Tw hc r hr
  ·exact Tw hd r hr)
 refine (Xr tbl htl c ⟨s.l, s.A, s.cap⟩ ⟨f.l, f.A, f.cap⟩ beats (fun nd b x y n l n' l' h1 h2 h3 h4 h5 h6 => Bn5 h1 h2 h3 h4 h5 h6) _ _ _ _ _ I (Aw8 hc fun r hr => .tail _ (List.mem_append.2 (.inl hr))) (Aw8 hd fun r hr => .tail _ (List.mem_append.2 (.inr hr))) ⟨Gw tbl, .inr (.head _), fun w _ => Sl.nil w⟩ (.head _)).mono ?_; rintro e w' ⟨he, G', hG', I⟩; exact ⟨he, I.below⟩
end
end Go.Proofs.YtaanjifekgfemaaGreat.Op
