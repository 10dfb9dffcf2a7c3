/- What the proof rests on, part 6. -/
import Derived.Test.YtaanjifekgfemaaGreatR5
set_option linter.unusedVariables false
set_option linter.unusedSimpArgs false
set_option linter.unusedSectionVars false
namespace Go.Proofs.YtaanjifekgfemaaGreat.Op
section
open Tryz Go.RowKit YtaanjifekgfemaaGreat.K YtaanjifekgfemaaGreat.W YtaanjifekgfemaaGreat.Cl Go.ChangeShapes Go.WideShapes Go.Deep
theorem Bw1 {n : Int} (h : (Lit.int .i64 n).wf = true) : B4 n := by
  simp only [Lit.wf, IntKind.min, IntKind.max, IntKind.signed, IntKind.bits, Bool.and_eq_true, decide_eq_true_eq] at h; unfold B4; simp at h; omega
theorem Sq {H : Type} {P : Program} {e : TypeId} : ∀ {l : List (DataW H)} {d : DataW H}, d ∈ l → ∀ n ∈ d.weights P e, n ∈ DataW.weightsAll P e l := by
  intro l
  induction l with
  | nil => intro d h; cases h
  | cons x l ih =>
    intro d h n hn; simp only [DataW.weightsAll, List.mem_append]; rcases List.mem_cons.1 h with rfl | h
    · exact .inl hn
    · exact .inr (ih h n hn)
def A60 {H : Type} (t : TypeId) (d : DataW H) : Prop := ∀ y ∈ d.weights Tryz.prog t, y ≤ reachBytes
def Opn {H : Type} (enc : TypeId × Value → H) (w : World) (base : Nat) (held : Bool) (t : TypeId) {α : Type} (c : α → List Value) (Q : α → Prop) : Prop :=
  ∀ (fuel : Nat) (cs : List Value) (x : DataW H × List MemPlace), DataW.trod enc Tryz.prog w base (fun _ => true) held fuel t cs = some x → A60 t x.1 → ∃ a, cs = c a ∧ Q a
section
variable {H : Type} {enc : TypeId × Value → H} {w : World} {base : Nat} {held : Bool}
theorem Bu : Opn enc w base held 3 (fun n : Int => [Value.int .i64 n]) B4 := by
  intro fuel cs x h _; obtain ⟨n, h1, _, h2⟩ := DataW.trod_int underlying3 h; exact ⟨n, h1, Bw1 h2⟩
theorem Ye : Opn enc w base held 4 (fun b : Bool => [Value.bool b]) (fun _ => True) := by
  intro fuel cs x h _; obtain ⟨b, h1, _⟩ := DataW.trod_bool underlying4 h; exact ⟨b, h1, trivial⟩
theorem R1 : Opn enc w base held 9 (fun s : ByteArray => [Value.string s]) (fun s => s.size ≤ 140737488355328) := by
  intro fuel cs x h hf; obtain ⟨s, h1, h2, _⟩ := DataW.trod_string underlying9 h; refine ⟨s, h1, ?_⟩; have h3 := hf s.data.toList.length (by rw [h2]; simp [DataW.weights]); rw [Mm] at h3; have := reachBytes_lt; omega
theorem An {t : TypeId} {fs : Array Field} (ht : Tryz.prog.underlying t = some (.struct fs)) {fuel : Nat} {cs : List Value} {x : DataW H × List MemPlace} (h : DataW.trod enc Tryz.prog w base (fun _ => true) held fuel t cs = some x) (hF : A60 t x.1) (j : Nat) {f : Field} (hj : fs[j]? = some f)
    {α : Type} {c : α → List Value} {Q : α → Prop} (ho : Opn enc w base held f.type c Q) {k : Nat} (hk : Tryz.prog.cellsOf f.type = k) : ∃ a, (cs.drop f.offset).take k = c a ∧ Q a := by
  obtain ⟨xs, n, _, hx, _, hl, hg⟩ := DataW.trod_struct ht h; have hjl : j < xs.length := by rw [hl]; exact (Array.getElem?_eq_some_iff.1 hj).1
  have g := hg j f hj; rw [List.getElem?_eq_getElem hjl, hk] at g; refine ho n _ _ g ?_; intro y hy; refine hF y ?_; rw [hx]; simp only [DataW.weights, ht]; refine DataW.weights_mem_each (j := j) (t := f.type) (d := xs[j].1) ?_ ?_ y hy
  · rw [List.getElem?_map, Array.getElem?_toList, hj]; rfl
  · rw [List.getElem?_map, List.getElem?_eq_getElem hjl]; rfl
theorem Ef {t : TypeId} {fs : Array Field} (ht : Tryz.prog.underlying t = some (.struct fs)) {fuel : Nat} {cs : List Value} {x : DataW H × List MemPlace} (h : DataW.trod enc Tryz.prog w base (fun _ => true) held fuel t cs = some x) {k : Nat} (hk : Tryz.prog.cellsOf t = k) : cs.length = k := by
  obtain ⟨xs, n, _, hx, hc, _⟩ := DataW.trod_struct ht h; rw [hc, hk]
theorem Av3 (cs : List Value) (o s : Nat) : cs.drop o = (cs.drop o).take s ++ cs.drop (o + s) := by
  rw [← List.drop_drop, List.take_append_drop]
theorem Aw {cs a b : List Value} (o s : Nat) (e1 : (cs.drop o).take s = a) (e2 : cs.drop (o + s) = b) : cs.drop o = a ++ b := by
  rw [Av3 cs o s, e1, e2]
structure SlOf (α : Type) where
  l : List α
  A : Option Addr
  cap : Nat
def slC {α : Type} (s : SlOf α) : List Value := [.slice s.A s.l.length s.cap]
def V3 {α : Type} (w : World) (c : α → List Value) (Q : α → Prop) (s : SlOf α) : Prop := Sl w (.slice s.A s.l.length s.cap) s.l.length (Ae c s.l) ∧ s.l.length ≤ 140737488355328 ∧ ∀ a ∈ s.l, Q a
theorem F8 {t e : TypeId} (ht : Tryz.prog.underlying t = some (.slice e)) {α : Type} {c : α → List Value} {Q : α → Prop} (ho : Opn enc w base held e c Q) {m : Nat} (hm : Tryz.prog.cellsOf e = m) (hc : ∀ a, (c a).length = m) (hm0 : 0 < m) (hb : 1 ≤ Tryz.prog.bytesOf e) (a0 : α) :
    Opn enc w base held t slC (V3 w c Q) := by
  intro fuel cs x h hF; rcases open_slice ht h with ⟨h1, _⟩ | ⟨a, len, cap, mm, n, D, Pl, h1, _, hl, hmx, hmm, hx, hi⟩
  · subst h1; refine ⟨⟨[], none, 0⟩, rfl, Sl.nil w, by simp, fun a h => by cases h⟩
  · subst h1; rw [if_pos rfl] at hmm; subst hmm
    have hlen : len ≤ 140737488355328 := by
      have h2 := hF ((((List.range len).map D).length + ((List.range (mm - len)).map fun j => D (len + j)).length) * Tryz.prog.bytesOf e) (by rw [hx]; simp only [DataW.weights, ht]; exact .head _); rw [List.length_map, List.length_range, List.length_map, List.length_range] at h2; have h3 : len * 1 ≤ (len + (mm - len)) * Tryz.prog.bytesOf e := Nat.mul_le_mul (by omega) hb; have := reachBytes_lt; omega
    have HH : ∀ i, i < len → ∃ y : α, Q y ∧ ∀ j, j < m → w.cell? (a.add (i * m + j)) = (c y)[j]? := by
      intro i hlt; obtain ⟨cs, hcs, ht2⟩ := hi i (by omega); rw [hm] at hcs; obtain ⟨_, hcl, hat⟩ := World.cells?_some hcs
      obtain ⟨y, hy, hq⟩ := ho n cs _ ht2 (by
        intro z hz; refine hF z ?_; rw [hx]; simp only [DataW.weights, ht]; refine .tail _ (List.mem_append.2 (.inl (Sq ?_ z hz)))
        exact List.mem_map.2 ⟨i, List.mem_range.2 hlt, rfl⟩)
      refine ⟨y, hq, fun j hj => ?_⟩; have := hat j (by omega); rw [K.add_add] at this; rw [this, hy]
    let f : Nat → α := fun i => if h : i < len then Classical.choose (HH i h) else a0
    have hf : ∀ i, i < len → Q (f i) ∧ ∀ j, j < m → w.cell? (a.add (i * m + j)) = (c (f i))[j]? := by
      intro i hlt; have := Classical.choose_spec (HH i hlt); simp only [f, hlt, dif_pos]; exact this
    have hll : ((List.range len).map f).length = len := by simp
    refine ⟨⟨(List.range len).map f, some a, mm⟩, by unfold slC; dsimp only; rw [hll], ?_, by dsimp only; rw [hll]; exact hlen, ?_⟩
    · dsimp only; rw [hll]; refine ⟨_, _, rfl, hl, fun _ => ⟨a, rfl, fun j hj => ?_⟩⟩; rw [Gh hc, hll] at hj; have hdm : j / m < len := Nat.div_lt_of_lt_mul (by rw [Nat.mul_comm]; exact hj); have hmd : j % m < m := Nat.mod_lt _ hm0; have e1 := (hf (j / m) hdm).2 (j % m) hmd; have e2 : j / m * m + j % m = j := by rw [Nat.mul_comm]; exact Nat.div_add_mod j m
      rw [e2] at e1; have e3 := Cx hc ((List.range len).map f) (j / m) (j % m) (by rw [hll]; exact hdm) hmd; rw [e2] at e3; rw [e1, e3]; simp
    · intro y hy; obtain ⟨i, hi2, rfl⟩ := List.mem_map.1 hy; exact (hf i (List.mem_range.1 hi2)).1
theorem Fx : Tryz.prog.cellsOf 3 = 1 := by kernel_rfl
theorem Bg5 : Tryz.prog.cellsOf 4 = 1 := by kernel_rfl
theorem Brq : Tryz.prog.cellsOf 9 = 1 := by kernel_rfl
theorem Br9 : Tryz.prog.cellsOf 24 = 1 := by kernel_rfl
theorem Bv8 : Tryz.prog.cellsOf 28 = 1 := by kernel_rfl
theorem Bv9 : Tryz.prog.cellsOf 41 = 1 := by kernel_rfl
theorem Bv5 : Tryz.prog.cellsOf 25 = 1 := by kernel_rfl
theorem Bv6 : Tryz.prog.cellsOf 26 = 1 := by kernel_rfl
theorem Bv7 : Tryz.prog.cellsOf 27 = 1 := by kernel_rfl
theorem Bjz : Tryz.prog.cellsOf 77 = 2 := by kernel_rfl
set_option maxRecDepth 100000 in
theorem Ai2 : Opn enc w base held 77 (fun a : Int × Int => As a) (fun a => B4 a.1 ∧ B4 a.2) := by
  intro fuel cs x h hF; have hl := Ef underlying77 h Bjz; obtain ⟨n0, e0, q0⟩ := An underlying77 h hF 0 rfl Bu Fx; obtain ⟨n1, e1, q1⟩ := An underlying77 h hF 1 rfl Bu Fx; refine ⟨(n0, n1), ?_, ?_⟩
  ·
    have z : cs.drop 2 = [] := List.drop_of_length_le (by omega); exact (List.drop_zero (l := cs)).symm.trans (Aw 0 1 e0 (Aw 1 1 e1 (z)))
  · exact ⟨q0, q1⟩
theorem Bg7 : Tryz.prog.cellsOf 53 = 2 := by kernel_rfl
set_option maxRecDepth 100000 in
theorem A01 : Opn enc w base held 53 (fun a : Int × Int => As a) (fun a => B4 a.1 ∧ B4 a.2) := by
  intro fuel cs x h hF; have hl := Ef underlying53 h Bg7; obtain ⟨n0, e0, q0⟩ := An underlying53 h hF 0 rfl Bu Fx; obtain ⟨n1, e1, q1⟩ := An underlying53 h hF 1 rfl Bu Fx; refine ⟨(n0, n1), ?_, ?_⟩
  ·
    have z : cs.drop 2 = [] := List.drop_of_length_le (by omega); exact (List.drop_zero (l := cs)).symm.trans (Aw 0 1 e0 (Aw 1 1 e1 (z)))
  · exact ⟨q0, q1⟩
theorem Ay1 : Tryz.prog.cellsOf 55 = 2 := by kernel_rfl
set_option maxRecDepth 100000 in
theorem Apq : Opn enc w base held 55 (fun a : Int × Int => As a) (fun a => B4 a.1 ∧ B4 a.2) := by
  intro fuel cs x h hF; have hl := Ef underlying55 h Ay1; obtain ⟨n0, e0, q0⟩ := An underlying55 h hF 0 rfl Bu Fx; obtain ⟨n1, e1, q1⟩ := An underlying55 h hF 1 rfl Bu Fx; refine ⟨(n0, n1), ?_, ?_⟩
  ·
    have z : cs.drop 2 = [] := List.drop_of_length_le (by omega); exact (List.drop_zero (l := cs)).symm.trans (Aw 0 1 e0 (Aw 1 1 e1 (z)))
  · exact ⟨q0, q1⟩
theorem Bg6 : Tryz.prog.cellsOf 114 = 2 := by kernel_rfl
set_option maxRecDepth 100000 in
theorem A00 : Opn enc w base held 114 (fun a : Int × Int => As a) (fun a => B4 a.1 ∧ B4 a.2) := by
  intro fuel cs x h hF; have hl := Ef underlying114 h Bg6; obtain ⟨n0, e0, q0⟩ := An underlying114 h hF 0 rfl Bu Fx; obtain ⟨n1, e1, q1⟩ := An underlying114 h hF 1 rfl Bu Fx; refine ⟨(n0, n1), ?_, ?_⟩
  ·
    have z : cs.drop 2 = [] := List.drop_of_length_le (by omega); exact (List.drop_zero (l := cs)).symm.trans (Aw 0 1 e0 (Aw 1 1 e1 (z)))
  · exact ⟨q0, q1⟩
theorem Ay2 : Tryz.prog.cellsOf 57 = 11 := by kernel_rfl
set_option maxRecDepth 100000 in
theorem Apx : Opn enc w base held 57 (fun a : Sd => sdC a) (fun a => V3 w As (fun y => B4 y.1 ∧ B4 y.2) ⟨a.s.tab, a.A, a.cap⟩) := by
  intro fuel cs x h hF; have hl := Ef underlying57 h Ay2; obtain ⟨sp, e0, _⟩ := An underlying57 h hF 0 rfl A01 Bg7; obtain ⟨n1, e1, _⟩ := An underlying57 h hF 1 rfl Bu Fx; obtain ⟨b2, e2, _⟩ := An underlying57 h hF 2 rfl Ye Bg5; obtain ⟨n3, e3, _⟩ := An underlying57 h hF 3 rfl Bu Fx; obtain ⟨n4, e4, _⟩ := An underlying57 h hF 4 rfl Bu Fx; obtain ⟨b5, e5, _⟩ := An underlying57 h hF 5 rfl Ye Bg5; obtain ⟨tb, e6, qt⟩ := An underlying57 h hF 6 rfl (F8 (a0 := (0, 0)) underlying41 A00 Bg6 (fun _ => rfl) (by decide) (show 1 ≤ Tryz.prog.bytesOf 114 from Nat.le_of_ble_eq_true (by kernel_rfl))) Bv9; obtain ⟨st, e7, _⟩ := An underlying57 h hF 7 rfl Apq Ay1; obtain ⟨n8, e8, _⟩ := An underlying57 h hF 8 rfl Bu Fx; refine ⟨⟨⟨sp.1, sp.2, n1, b2, n3, n4, b5, tb.l, st.1, st.2, n8⟩, tb.A, tb.cap⟩, ?_, ?_⟩
  ·
    have z : cs.drop 11 = [] := List.drop_of_length_le (by omega); exact (List.drop_zero (l := cs)).symm.trans (Aw 0 2 e0 (Aw 2 1 e1 (Aw 3 1 e2 (Aw 4 1 e3 (Aw 5 1 e4 (Aw 6 1 e5 (Aw 7 1 e6 (Aw 8 2 e7 (Aw 10 1 e8 (z))))))))))
  · exact qt
theorem Br8 : Tryz.prog.cellsOf 79 = 3 := by kernel_rfl
set_option maxRecDepth 100000 in
theorem Bc3 : Opn enc w base held 79 (fun a : Li => liC a) (fun a => a.text.size ≤ 140737488355328) := by
  intro fuel cs x h hF; have hl := Ef underlying79 h Br8; obtain ⟨wy, e0, _⟩ := An underlying79 h hF 0 rfl Ai2 Bjz; obtain ⟨s1, e1, q1⟩ := An underlying79 h hF 1 rfl R1 Brq; refine ⟨⟨wy.1, wy.2, s1⟩, ?_, ?_⟩
  ·
    have z : cs.drop 3 = [] := List.drop_of_length_le (by omega); exact (List.drop_zero (l := cs)).symm.trans (Aw 0 2 e0 (Aw 2 1 e1 (z)))
  · exact q1
theorem Ah4 : Tryz.prog.cellsOf 23 = 12 := by kernel_rfl
set_option maxRecDepth 100000 in
theorem Ac8 : Opn enc w base held 23 (fun a : Par => D5 a) (fun a => True) := by
  intro fuel cs x h hF; have hl := Ef underlying23 h Ah4; obtain ⟨n0, e0, _⟩ := An underlying23 h hF 0 rfl Bu Fx; obtain ⟨n1, e1, _⟩ := An underlying23 h hF 1 rfl Bu Fx; obtain ⟨n2, e2, _⟩ := An underlying23 h hF 2 rfl Bu Fx; obtain ⟨n3, e3, _⟩ := An underlying23 h hF 3 rfl Bu Fx; obtain ⟨n4, e4, _⟩ := An underlying23 h hF 4 rfl Bu Fx; obtain ⟨n5, e5, _⟩ := An underlying23 h hF 5 rfl Bu Fx; obtain ⟨n6, e6, _⟩ := An underlying23 h hF 6 rfl Bu Fx; obtain ⟨n7, e7, _⟩ := An underlying23 h hF 7 rfl Bu Fx; obtain ⟨n8, e8, _⟩ := An underlying23 h hF 8 rfl Bu Fx; obtain ⟨n9, e9, _⟩ := An underlying23 h hF 9 rfl Bu Fx; obtain ⟨n10, e10, _⟩ := An underlying23 h hF 10 rfl Bu Fx; obtain ⟨n11, e11, _⟩ := An underlying23 h hF 11 rfl Bu Fx; refine ⟨⟨n0, n1, n2, n3, n4, n5, n6, n7, n8, n9, n10, n11⟩, ?_, ?_⟩
  ·
    have z : cs.drop 12 = [] := List.drop_of_length_le (by omega); exact (List.drop_zero (l := cs)).symm.trans (Aw 0 1 e0 (Aw 1 1 e1 (Aw 2 1 e2 (Aw 3 1 e3 (Aw 4 1 e4 (Aw 5 1 e5 (Aw 6 1 e6 (Aw 7 1 e7 (Aw 8 1 e8 (Aw 9 1 e9 (Aw 10 1 e10 (Aw 11 1 e11 (z)))))))))))))
  · exact trivial
def As9 (w : World) (c : Cs) : Prop := V3 w (fun n : Int => [Value.int .i64 n]) B4 ⟨c.core, c.a3.1, c.a3.2⟩ ∧ V3 w As (fun a => B4 a.1 ∧ B4 a.2) ⟨c.links, c.a4.1, c.a4.2⟩ ∧ V3 w sdC (fun a : Sd => V3 w As (fun y => B4 y.1 ∧ B4 y.2) ⟨a.s.tab, a.A, a.cap⟩) ⟨c.states, c.a5.1, c.a5.2⟩ ∧ V3 w liC (fun a => a.text.size ≤ 140737488355328) ⟨c.frames, c.a6.1, c.a6.2⟩ ∧ V3 w (fun n : Int => [Value.int .i64 n]) B4 ⟨c.noise, c.a7.1, c.a7.2⟩ ∧ V3 w (fun s : ByteArray => [Value.string s]) (fun s => s.size ≤ 140737488355328) ⟨c.lies, c.a8.1, c.a8.2⟩
theorem Br7 : Tryz.prog.cellsOf 30 = 20 := by kernel_rfl
set_option maxRecDepth 100000 in
theorem Azz : Opn enc w base held 30 (fun a : Cs => csC a) (fun a => As9 w a) := by
  intro fuel cs x h hF; have hl := Ef underlying30 h Br7; obtain ⟨p0, e0, _⟩ := An underlying30 h hF 0 rfl Ac8 Ah4; obtain ⟨n1, e1, _⟩ := An underlying30 h hF 1 rfl Bu Fx; obtain ⟨n2, e2, _⟩ := An underlying30 h hF 2 rfl Bu Fx; obtain ⟨co, e3, q3⟩ := An underlying30 h hF 3 rfl (F8 (a0 := 0) underlying24 Bu Fx (fun _ => rfl) (by decide) (show 1 ≤ Tryz.prog.bytesOf 3 from Nat.le_of_ble_eq_true (by kernel_rfl))) Br9; obtain ⟨lk, e4, q4⟩ := An underlying30 h hF 4 rfl (F8 (a0 := (0, 0)) underlying25 Ai2 Bjz (fun _ => rfl) (by decide) (show 1 ≤ Tryz.prog.bytesOf 77 from Nat.le_of_ble_eq_true (by kernel_rfl))) Bv5; obtain ⟨sa, e5, q5⟩ := An underlying30 h hF 5 rfl (F8 (a0 := ⟨⟨0, 0, 0, false, 0, 0, false, [], 0, 0, 0⟩, none, 0⟩) underlying26 Apx Ay2 (fun _ => rfl) (by decide) (show 1 ≤ Tryz.prog.bytesOf 57 from Nat.le_of_ble_eq_true (by kernel_rfl))) Bv6; obtain ⟨fr, e6, q6⟩ := An underlying30 h hF 6 rfl (F8 (a0 := ⟨0, 0, ByteArray.empty⟩) underlying27 Bc3 Br8 (fun _ => rfl) (by decide) (show 1 ≤ Tryz.prog.bytesOf 79 from Nat.le_of_ble_eq_true (by kernel_rfl))) Bv7; obtain ⟨no, e7, q7⟩ := An underlying30 h hF 7 rfl (F8 (a0 := 0) underlying24 Bu Fx (fun _ => rfl) (by decide) (show 1 ≤ Tryz.prog.bytesOf 3 from Nat.le_of_ble_eq_true (by kernel_rfl))) Br9; obtain ⟨li, e8, q8⟩ := An underlying30 h hF 8 rfl (F8 (a0 := ByteArray.empty) underlying28 R1 Brq (fun _ => rfl) (by decide) (show 1 ≤ Tryz.prog.bytesOf 9 from Nat.le_of_ble_eq_true (by kernel_rfl))) Bv8; refine ⟨⟨p0, n1, n2, co.l, lk.l, sa.l, fr.l, no.l, li.l, (co.A, co.cap), (lk.A, lk.cap), (sa.A, sa.cap), (fr.A, fr.cap), (no.A, no.cap), (li.A, li.cap)⟩, ?_, ?_⟩
  ·
    have z : cs.drop 20 = [] := List.drop_of_length_le (by omega); exact (List.drop_zero (l := cs)).symm.trans (Aw 0 12 e0 (Aw 12 1 e1 (Aw 13 1 e2 (Aw 14 1 e3 (Aw 15 1 e4 (Aw 16 1 e5 (Aw 17 1 e6 (Aw 18 1 e7 (Aw 19 1 e8 (z))))))))))
  · exact ⟨q3, q4, q5, q6, q7, q8⟩
end
end
section
open Tryz Go.RowKit YtaanjifekgfemaaGreat.K YtaanjifekgfemaaGreat.W YtaanjifekgfemaaGreat.Cl
theorem Ay5 (l : List (Int × Int)) : Ae As l = lcs l := by
  induction l with
  | nil => rfl
  | cons x l ih => show As x ++ Ae As l = _; rw [ih]; rfl
theorem Axq (l : List Int) : Ae (fun n : Int => [Value.int .i64 n]) l = ivs l := by
  induction l with
  | nil => rfl
  | cons x l ih => show [Value.int .i64 x] ++ Ae (fun n : Int => [Value.int .i64 n]) l = _; rw [ih]; rfl
theorem Ar7 (l : List ByteArray) : Ae (fun s : ByteArray => [Value.string s]) l = Mi l := by
  induction l with
  | nil => rfl
  | cons x l ih => show [Value.string x] ++ Ae (fun s : ByteArray => [Value.string s]) l = _; rw [ih]; rfl
def Af1 (w : World) (r : Res) : Prop := ∃ v n xs, r = slR v n xs ∧ Sl w v n xs
theorem Gk {w : World} {v : Value} {n : Nat} {xs : List Value} (h : Sl w v n xs) : Af1 w (slR v n xs) := ⟨v, n, xs, rfl, h⟩
theorem Adx {w : World} (G : List Res) (h : ∀ r ∈ G, Af1 w r) : St w [] w [] G := by
  induction G with
  | nil => exact St.start w
  | cons r G ih =>
    obtain ⟨v, n, xs, rfl, hs⟩ := h r (.head _); exact (ih fun r hr => h r (.tail _ hr)).arg hs
def Bw0 (A : Option Addr) (tab : List (Int × Int)) (cap : Nat) : Res := slR (.slice A tab.length cap) tab.length (lcs tab)
def stF (x : Sd) : Res := Bw0 x.A x.s.tab x.cap
def csF (c : Cs) : List Res := slR (.slice c.a3.1 c.core.length c.a3.2) c.core.length (ivs c.core) :: slR (.slice c.a4.1 c.links.length c.a4.2) c.links.length (Ae As c.links) :: slR (.slice c.a5.1 c.states.length c.a5.2) c.states.length (Ae sdC c.states) ::
  slR (.slice c.a6.1 c.frames.length c.a6.2) c.frames.length (Ae liC c.frames) :: slR (.slice c.a7.1 c.noise.length c.a7.2) c.noise.length (ivs c.noise) :: slR (.slice c.a8.1 c.lies.length c.a8.2) c.lies.length (Mi c.lies) :: c.states.map stF
theorem Alx {w : World} {c : Cs} (h : As9 w c) : ∀ r ∈ csF c, Af1 w r := by
  obtain ⟨h3, h4, h5, h6, h7, h8⟩ := h; have k3 := h3.1; have k7 := h7.1; have k8 := h8.1; dsimp only at k3 k7 k8; rw [Axq] at k3 k7; rw [Ar7] at k8; intro r hr; unfold csF at hr; rcases List.mem_cons.1 hr with rfl | hr
  · exact Gk k3
  rcases List.mem_cons.1 hr with rfl | hr
  · exact Gk h4.1
  rcases List.mem_cons.1 hr with rfl | hr
  · exact Gk h5.1
  rcases List.mem_cons.1 hr with rfl | hr
  · exact Gk h6.1
  rcases List.mem_cons.1 hr with rfl | hr
  · exact Gk k7
  rcases List.mem_cons.1 hr with rfl | hr
  · exact Gk k8
  obtain ⟨x, hx, rfl⟩ := List.mem_map.1 hr; have h9 := (h5.2.2 x hx).1; dsimp only at h9; rw [Ay5] at h9; exact Gk h9
theorem Bi5 {w : World} {c : Cs} (h : As9 w c) {G : List Res} (hG : ∀ r ∈ csF c, r ∈ G) : c.In G := by
  obtain ⟨h3, h4, h5, h6, h7, h8⟩ := h; have m := fun (r : Res) (hr : r ∈ csF c) => hG r hr; unfold csF at m; refine ⟨Rds.ofG (m _ (.head _)), Rds.ofG (m _ (.tail _ (.head _))), Rds.ofG (m _ (.tail _ (.tail _ (.head _)))), Rds.ofG (m _ (.tail _ (.tail _ (.tail _ (.head _))))), Rds.ofG (m _ (.tail _ (.tail _ (.tail _ (.tail _ (.head _)))))), Rds.ofG (m _ (.tail _ (.tail _ (.tail _ (.tail _ (.tail _ (.head _))))))), ?_, h6.2.2, h8.2.2⟩; intro x hx; exact ⟨(h5.2.2 x hx).2.2, Rds.ofG (m _ (.tail _ (.tail _ (.tail _ (.tail _ (.tail _ (.tail _ (List.mem_map.2 ⟨x, hx, rfl⟩))))))))⟩
set_option maxRecDepth 100000 in
theorem Bl0 {w : World} (h : w.ShapedOpen Tryz.prog) : ∃ tbl : List Int, tbl.length = 20 ∧ Af1 w (Gt tbl) := by
  have h0 : ((begin Tryz.prog (fun _ _ => 0) default).world.heap[2]?).bind Obj.row? = some (Array.replicate 20 (.int .u64 0), 321) := by kernel_rfl
  obtain ⟨cs, hh, hs, hr⟩ := h.1 2 _ _ (of_decide_eq_true (by kernel_rfl)) h0; obtain ⟨ts, hts, _, hall⟩ := hr (by kernel_rfl); have hct : Tryz.prog.cellTypes Tryz.prog.depth 321 = some (List.replicate 20 192) := by kernel_rfl
  rw [hct] at hts; injection hts with hts; subst hts; have hsz : cs.size = 20 := by simpa using hs
  have key : ∀ i, i < 20 → ∃ m : Int, w.cell? ⟨2, i, none⟩ = some (.int .u64 m) := by
    intro i hi; have h1 : i < cs.size := by omega
    obtain ⟨u, hu', hok⟩ := hall i cs[i] (by simp [h1])
    have : u = 192 := by
      rw [List.getElem?_replicate] at hu'; split at hu'
      · injection hu' with hu'; exact hu'.symm
      · cases hu'
    subst this; have hcell : w.cell? ⟨2, i, none⟩ = some cs[i] := by simp [World.cell?, hh, h1]
    rw [hcell]; unfold Cell.ok at hok; rw [underlying192] at hok; cases hv : cs[i] <;> rw [hv] at hok <;> simp at hok
    case int k' n => exact ⟨n, by rw [hok.1]⟩
  let f : Nat → Int := fun i => if h : i < 20 then Classical.choose (key i h) else 0
  have hf : ∀ i, i < 20 → w.cell? ⟨2, i, none⟩ = some (.int .u64 (f i)) := by
    intro i hi; have := Classical.choose_spec (key i hi); simp only [f, hi, dif_pos]; exact this
  refine ⟨(List.range 20).map f, by simp, Gk ⟨_, _, rfl, Nat.le_refl _, fun _ => ⟨_, rfl, fun j hj => ?_⟩⟩⟩; rw [List.length_map, List.length_map, List.length_range] at hj; rw [Bx, Nat.zero_add, hf j hj]; simp [hj]
set_option maxRecDepth 100000 in
theorem A8q {H : Type} {enc : TypeId × Value → H} {w : World} {base : Nat} {held : Bool} {r : Reach} {b0 : Nat} {v : Value} {d : DataW H} {p : List MemPlace} (hv : Value.okWide Tryz.prog w r b0 30 v) (h : DataW.Trod enc Tryz.prog w base (fun _ => true) held 30 v d p) (hF : A60 30 d) : ∃ c : Cs, v = .agg (csC c).toArray ∧ As9 w c := by
  obtain ⟨cs, rfl, hsz⟩ := Go.WideShapes.okWide_struct underlying30 hv; obtain ⟨fuel, hf⟩ := h; obtain ⟨c, h1, h2⟩ := Azz fuel _ _ hf hF; have e : (Value.agg cs).cells.toList = cs.toList := by simp [Value.cells]
  rw [e] at h1; have h3 : cs.toList = csC c := h1; exact ⟨c, by rw [← h3], h2⟩
end
end Go.Proofs.YtaanjifekgfemaaGreat.Op
namespace Go.Proofs.YtaanjifekgfemaaGreat.Cl
section
open Tryz Go.RowKit YtaanjifekgfemaaGreat.K YtaanjifekgfemaaGreat.W YtaanjifekgfemaaGreat.LN
theorem StepW.reG {p : Par} {s : Stp} {G G1 G' : List Res} {x x' : Wd} (h : StepW p s G1 G' x x') (hG : ∀ r ∈ G, r ∈ G') : StepW p s G G' x x' := by
  obtain ⟨ms1, sd, hr, he⟩ := h.run; exact ⟨⟨ms1, sd, ⟨hr.len, hr.done, hr.left, hr.left2, hr.un, hr.ok, hr.msg, hG⟩, he⟩, h.time, h.links, h.un, h.ub⟩
def Fq (c : Cs) (nd : Nat) : List (Int × Int) := lnk (Ak c.p.N.toNat nd) c.p.N.toNat c.core c.links
inductive RunT (c : Cs) (nd : Nat) : Nat → Wd → Nat → Nat → Prop
  | start (x : Wd) (G : List Res) : x.Ok c.p nd G → x.time = Aj c.time → x.links = Fq c nd → RunT c nd 0 x 0 0
  | step {b : Nat} {x x' : Wd} {n l : Nat} {stp : Stp} {G G' : List Res} : RunT c nd b x n l → x.Ok c.p nd G → x'.Ok c.p nd G' → StpOf c (Ak c.p.N.toNat nd) x.time n l stp → StepW c.p stp G G' x x' → RunT c nd (b + 1) x' (Af8 c (Ak c.p.N.toNat nd) x.time n l) (Af7 c (Ak c.p.N.toNat nd) x.time n l)
theorem A76 (c : Cs) (us : List Int) (time : Int) (n l : Nat) (hu : us.length ≤ 13) (hN : c.p.N ≤ 7) : Af8 c us time n l ≤ n + 200 ∧ Af7 c us time n l ≤ l + 200 := by
  unfold Af8 Af7; obtain ⟨_, _, h3⟩ := Af3 c us n us.length (Nat.le_refl _)
  obtain ⟨_, _, h6, h7⟩ := At2 c us time (TKf c us n us.length).1 l c.p.N.toNat
  have h8 : us.length * (us.length + 1) ≤ 13 * 14 := Nat.mul_le_mul (by omega) (by omega); have h9 : c.p.N.toNat * us.length ≤ 7 * 13 := Nat.mul_le_mul (by omega) (by omega); omega
theorem RunT.nl {c : Cs} {nd b : Nat} {x : Wd} {n l : Nat} (h : RunT c nd b x n l) (hN : c.p.N ≤ 7) (hd : nd ≤ 6) : n ≤ 200 * b ∧ l ≤ 200 * b := by
  induction h with
  | start x G _ _ _ => exact ⟨Nat.le_refl _, Nat.le_refl _⟩
  | @step b x x' n l stp G G' h _ _ _ _ ih =>
    have := A76 c (Ak c.p.N.toNat nd) x.time n l (by rw [Em]; omega) hN; omega
theorem RunT.links {c : Cs} {nd b : Nat} {x : Wd} {n l : Nat} (h : RunT c nd b x n l) : x.links = Fq c nd := by
  induction h with
  | start x G _ _ h => exact h
  | step h _ _ ho hs ih => rw [hs.links_id ho.cut ho.join, ih]
theorem RunT.time_in {c : Cs} {nd b : Nat} {x : Wd} {n l : Nat} (h : RunT c nd b x n l) : -2305843009213693952 ≤ x.time ∧ x.time ≤ 2305843009213693952 := by
  cases h with
  | start x G _ h _ => rw [h]; exact Bo _
  | step h _ _ ho hs => rw [hs.time]; exact Ff _
theorem RunT.ok {c : Cs} {nd b : Nat} {x : Wd} {n l : Nat} (h : RunT c nd b x n l) : ∃ G, x.Ok c.p nd G := by
  cases h with
  | start x G h _ _ => exact ⟨G, h⟩
  | step _ _ h _ _ => exact ⟨_, h⟩
theorem Xz {c : Cs} {nd : Nat} {beats : Int} (h : c.Small beats) : (Fq c nd).length ≤ 1000 := by
  have h1 := Bb9 (Ak c.p.N.toNat nd) c.p.N.toNat c.core c.links; have h2 := h.core; have h3 := h.links; have h4 := h.N; have h5 : c.p.N.toNat * (c.p.N.toNat + c.core.length) ≤ 7 * (7 + 20) := Nat.mul_le_mul (by omega) (by omega); unfold Fq; omega
inductive Near (c : Cs) (nd : Nat) : Nat → Nat → Prop
  | core {v : Nat} : v < nd → (v : Int) ∈ c.core → Near c nd 0 v
  | way {k u v : Nat} : Near c nd k u → v < nd → (((u : Int), (v : Int)) ∈ c.links ∨ ((v : Int), (u : Int)) ∈ c.links) → Near c nd (k + 1) v
def C0 (c : Cs) (nd : Nat) (a : List Int) : Prop := a.length = 48 ∧ (∀ i, i < 48 → 0 ≤ a.getD i 0 ∧ a.getD i 0 ≤ 17) ∧ ∀ v : Nat, v < nd → a.getD (16 + v) 0 ≤ c.p.D → Near c nd (a.getD (16 + v) 0).toNat v
theorem Ev {a : List Int} (i j : Nat) (v : Int) (h : i < a.length) : (a.set i v).getD j 0 = if i = j then v else a.getD j 0 := by
  rw [List.getD_eq_getElem?_getD, List.getD_eq_getElem?_getD, List.getElem?_set]
  by_cases e : i = j
  · subst e; rw [if_pos rfl, if_pos rfl, if_pos h]; rfl
  · rw [if_neg e, if_neg e]
def F2 (c : Cs) (a : List Int) (k : Nat) : Prop := a.length = 48 ∧ (∀ i, i < 48 → 0 ≤ a.getD i 0 ∧ a.getD i 0 ≤ 17) ∧ ∀ i, i < k → 16 ≤ i → i < 48 → a.getD i 0 = c.p.D + 1
theorem F2.zero (c : Cs) : F2 c (List.replicate 48 0) 0 := by
  refine ⟨by simp, fun i hi => ?_, fun i hi => absurd hi (Nat.not_lt_zero _)⟩; rw [List.getD_eq_getElem?_getD, List.getElem?_replicate, if_pos hi]
  decide
theorem F2.set {c : Cs} {a : List Int} {k : Nat} (h : F2 c a k) (hD : 0 ≤ c.p.D ∧ c.p.D ≤ 16) (hk : k < 48) : F2 c (a.set k (c.p.D + 1)) (k + 1) := by
  obtain ⟨h1, h2, h3⟩ := h; refine ⟨by rw [List.length_set]; exact h1, fun i hi => ?_, fun i hi h16 h48 => ?_⟩
  · rw [Ev _ _ _ (by omega)]; split
    · omega
    · exact h2 i hi
  · rw [Ev _ _ _ (by omega)]; split
    · rfl
    · exact h3 i (by omega) h16 h48
theorem F2.gate {c : Cs} {a : List Int} {k : Nat} (h : F2 c a k) {i : Nat} (hi : i < 16) : F2 c (a.set i 0) k := by
  obtain ⟨h1, h2, h3⟩ := h; refine ⟨by rw [List.length_set]; exact h1, fun j hj => ?_, fun j hj h16 h48 => ?_⟩
  · rw [Ev _ _ _ (by omega)]; split
    · decide
    · exact h2 j hj
  · rw [Ev _ _ _ (by omega), if_neg (by omega)]; exact h3 j hj h16 h48
theorem F2.ok {c : Cs} {nd : Nat} {a : List Int} (h : F2 c a 48) (hn : nd ≤ 32) : C0 c nd a := by
  obtain ⟨h1, h2, h3⟩ := h; refine ⟨h1, h2, fun v hv hd => ?_⟩; rw [h3 (16 + v) (by omega) (by omega) (by omega)] at hd; omega
theorem C0.core {c : Cs} {nd : Nat} {a : List Int} (h : C0 c nd a) (hn : nd ≤ 32) {v : Nat} (hv : v < nd) (hm : (v : Int) ∈ c.core) : C0 c nd (a.set (16 + v) 0) := by
  obtain ⟨h1, h2, h3⟩ := h; refine ⟨by rw [List.length_set]; exact h1, fun j hj => ?_, fun u hu hd => ?_⟩
  · rw [Ev _ _ _ (by omega)]; split
    · decide
    · exact h2 j hj
  · rw [Ev _ _ _ (by omega)] at hd ⊢; split
    · rename_i e; obtain rfl : v = u := by omega
      exact Near.core hv hm
    · rename_i e; rw [if_neg e] at hd; exact h3 u hu hd
theorem C0.way {c : Cs} {nd : Nat} {a : List Int} (h : C0 c nd a) (hn : nd ≤ 32) {n u v : Nat} (hD : c.p.D ≤ 16) (hu : u < nd) (hv : v < nd) (hnD : (n : Int) < c.p.D) (ha : a.getD (16 + u) 0 = (n : Int)) (hl : ((u : Int), (v : Int)) ∈ c.links ∨ ((v : Int), (u : Int)) ∈ c.links) : C0 c nd (a.set (16 + v) ((n : Int) + 1)) := by
  obtain ⟨h1, h2, h3⟩ := h; have hu1 := h3 u hu (by omega); rw [ha, Int.toNat_natCast] at hu1; refine ⟨by rw [List.length_set]; exact h1, fun j hj => ?_, fun w hw hd => ?_⟩
  · rw [Ev _ _ _ (by omega)]; split
    · omega
    · exact h2 j hj
  · rw [Ev _ _ _ (by omega)] at hd ⊢; split
    · rename_i e; obtain rfl : v = w := by omega
      rw [show ((n : Int) + 1).toNat = n + 1 by omega]; exact Near.way hu1 hv hl
    · rename_i e; rw [if_neg e] at hd; exact h3 w hw hd
theorem Nc (a : List Int) (i : Nat) (v : Int) : (ivs a).set i (.int .i64 v) = ivs (a.set i v) := by unfold ivs; rw [List.map_set]
theorem D3 (a : List Int) : (ivs a).length = a.length := by simp [ivs]
theorem Ko {a : List Int} {i : Nat} (h : i < a.length) : (ivs a)[i]? = some (.int .i64 (a.getD i 0)) := by unfold ivs; simp [h]
end
section
open Tryz Go.RowKit YtaanjifekgfemaaGreat.K YtaanjifekgfemaaGreat.W YtaanjifekgfemaaGreat.LN
attribute [local irreducible] Bc Aj Bb sub neg mag C4 mul Dc
theorem Bn9 : CF 16 := fun _ _ => by simp [go_sem]
theorem Cs.In.moreC {G G' : List Res} {c : Cs} (h : c.In G) (hG : ∀ r ∈ G, r ∈ G') : c.In G' := h.mono hG
theorem Ud {p : Par} (hp : p.Ok) : 0 ≤ settle p := by
  have h1 := hp.D; have h2 := hp.Mu; have h3 := hp.Rho
  have h4 := hp.Beat
  have h5 : sub p.Mu p.Rho = p.Mu - p.Rho := Mj (by omega) (by omega); have h6 := mul_nonneg (a := 3) (b := C5 p p.Hold p.D) (by decide) (Hb hp (by have := hp.Hold; omega) h1.1); refine Gg _ ?_; intro x hx; simp only [List.mem_cons, List.not_mem_nil, or_false] at hx; rcases hx with rfl | rfl | rfl
  · exact mul_nonneg (by decide) h1.1
  · decide
  · rw [h5]; exact Int.ediv_nonneg (by omega) (by omega)
theorem Jm {c : Cs} {beats : Int} (hs : c.Small beats) {nd : Nat} (hnd : c.nodes = (nd : Int)) : nd ≤ 6 := by have := hs.nodes; omega
set_option maxHeartbeats 4000000 in
theorem Yv (tbl : List Int) (htl : tbl.length = 20) (c : Cs) (beats : Int) (hs : c.Small beats) (nd : Nat) (hnd : c.nodes = (nd : Int)) (w0 w : World) (F0 : List Nat) (L G : List Res) (I : St w0 F0 w L G) (hin : c.In G) (hrn : Rds [] G (.slice none 0 0) 0 []) (hpw : Gt tbl ∈ G) :
    Calls Tryz.prog 14 #[.agg (csC c).toArray] w fun e w' => ∃ (rb wb : Nat) (x : Wd) (n l : Nat) (G' : List Res), e = .returned (.pointer (some ⟨rb, 0, none⟩)) ∧ RunT c nd (settle c.p).toNat x n l ∧ x.Ok c.p nd G' ∧ (∀ r ∈ G, r ∈ G') ∧ St w0 F0 w' (Aa rb (Ez c wb (n) (l)) 47 :: x.res c.p wb L) G' := by
  have hok := hs.ok; have hn6 := Jm hs hnd; have hse := hs.settle; have hs0 := Ud hok; refine W.func func14 O ntmps14 O<|Wh O<|Ow O (X.boxA I O fun p1 w1 I => I.y O (Y.assignP O)<|Ds O O<|I.y O (Y.loadA 0 isAgg30 sizeOf30 O O O O)<|Oc O cf8 O ?_); refine Ab (Al2 c beats hs nd hnd _ _ _ _ _ I hin hrn) O ?_; clear I; rintro e w6 ⟨rb, wb, x0, G1, rfl, hx0, hG1, htm, hlk0, I⟩; replace I := ((I.resDn [_]).resUp [_, _]).up_1; refine ⟨_, O, ?_⟩; refine I.y O (Y.assignP O)<|Od O<|Wq O<|Wh O<|I.a O O<|Od O<|Wb O<|?_; refine W.loop (γ := Nat × Wd × Nat × Nat × List Res) [(1, .pointer _), (3, .pointer _)] (fun x_ => [(4, .int .i64 (x_.1 : Int))]) (fun x_ w => (x_.1 ≤ (settle c.p).toNat ∧ RunT c nd x_.1 x_.2.1 x_.2.2.1 x_.2.2.2.1 ∧ x_.2.1.Ok c.p nd x_.2.2.2.2 ∧ ∀ r ∈ G, r ∈ x_.2.2.2.2) ∧ St w0 F0 w (Aa p1 (csC c) 30 :: Aa rb (Ez c wb (x_.2.2.1) (x_.2.2.2.1)) 47 :: x_.2.1.res c.p wb L) x_.2.2.2.2) (fun x_ => (settle c.p).toNat - x_.1) ((0, x0, 0, 0, G1)) O ⟨O, O, trivial⟩ ?_ ?_ ?_
  · exact ⟨O, trivial⟩
  · exact ⟨⟨Nat.zero_le _, RunT.start x0 G1 hx0 htm hlk0, hx0, hG1⟩, I⟩
  · clear I; rintro ⟨k, x, n, l, G1⟩ j w3 ⟨⟨hk, hrun, hx, hG1⟩, I⟩; dsimp only at hk hrun hx hG1 I; refine Wq O<|Wh O<|I.u O O<|I.f Fj O O<|I.y O (Y.loadA 0 isAgg23 sizeOf23 O O O O)<|Ow O (X.ret Bq1 (Se c.p _ _ _ _ _ I hok) O fun _ I => I.v O O O (fun b11 hb11 => I.b O O<|?_)); cases b11
    · replace hb11 := dF hb11; refine On O<|On O<|I.k O O O<|Od O<|Wu O O<|W.exit O<|Wh O<|I.p O O<|I.y O (Y.assignP O)<|Od O<|We O<|⟨_, Ac.one results14 O, ?_⟩; obtain rfl : k = (settle c.p).toNat := by omega
      exact ⟨rb, wb, x, n, l, G1, O, hrun, hx, hG1, (I.dr 1)⟩
    · replace hb11 := dT hb11; refine I.p O O<|I.y O (Y.notNil underlying34 O O)<|I.k O O O<|Od O<|Wt O O<|Wk O<|Wq O<|Wb O<|Wr O<|I.p O O<|Oc O Bn9 O ?_; refine Ab (T4 tbl htl rb c wb n l nd hnd hn6 hok hs.N hs.noise hs.lies (by have := (hrun.nl hs.N hn6).1; omega) (by have := (hrun.nl hs.N hn6).2; omega) x (Ak c.p.N.toNat nd) rfl (by rw [hrun.links]; exact Nat.le_trans (Xz hs) (by decide)) hrun.time_in _ _ _ _ _ ((I.up_1.resDn [_, _]).resUp [_]) hx (hin.moreC hG1) (hrn.moreG hG1) (hG1 _ hpw)) O ?_; clear I; rintro e w19 ⟨stp, x2, G3, G2, rfl, hof, hst9, hx2, hG2, I⟩; replace I := ((I.resDn [_]).resUp [_, _]).up_1; refine ⟨_, O, ?_⟩; refine Od O<|Wr O<|I.u O O<|I.j O O O (by omega)<|I.a O O<|Od O<|?_; exact ⟨(k + 1, x2, _, _, G2), ⟨O, trivial⟩, ⟨O, O, trivial⟩, ⟨⟨by dsimp only; omega, RunT.step hrun hx hx2 hof (hst9.reG hG2), hx2, fun r hr => hG2 r (hG1 r hr)⟩, I⟩, by dsimp only; omega⟩
theorem Yd (a : List Int) : Nk (ivs a) = true := by
  induction a with
  | nil => rfl
  | cons x a ih => exact ih
theorem Sg {a : List Int} (h : a.length = 48) : splice (ivs (List.replicate 48 0)) 0 (ivs a) = ivs a := by
  unfold splice; rw [List.take_zero, List.nil_append, Nat.zero_add, List.drop_of_length_le (by rw [D3, D3, List.length_replicate]; omega), List.append_nil]
theorem Uz {c : Cs} {nd : Nat} {a : List Int} (h : C0 c nd a) {beats : Int} (hs : c.Small beats) (hnd : c.nodes = (nd : Int)) {x : Int} (hx : x ∈ c.core) (h0 : 0 ≤ x) (h1 : x < c.nodes) : C0 c nd (a.set (16 + x.toNat) 0) :=
  h.core (by have := Jm hs hnd; omega) (by omega) (by rw [Int.toNat_of_nonneg h0]; exact hx)
theorem Om {c : Cs} {nd : Nat} {a : List Int} (h : C0 c nd a) {beats : Int} (hs : c.Small beats) (hnd : c.nodes = (nd : Int)) {y : Int × Int} (hy : y ∈ c.links) {u v : Int} (huv : y = (u, v) ∨ y = (v, u)) {n : Nat} (hu0 : 0 ≤ u) (hu1 : u < c.nodes) (hv0 : 0 ≤ v) (hv1 : v < c.nodes) (hn : (n : Int) < c.p.D) (ha : a.getD (16 + u.toNat) 0 = (n : Int)) : C0 c nd (a.set (16 + v.toNat) ((n : Int) + 1)) :=
  h.way (by have := Jm hs hnd; omega) (by have := hs.D; omega) (by omega) (by omega) hn ha (by
    rw [Int.toNat_of_nonneg hu0, Int.toNat_of_nonneg hv0]; rcases huv with rfl | rfl
    · exact .inl hy
    · exact .inr hy)
set_option maxHeartbeats 4000000 in
theorem Ar6 (rb : Nat) (c : Cs) (beats : Int) (hs : c.Small beats) (nd : Nat) (hnd : c.nodes = (nd : Int)) (wb n l : Nat) (w0 w : World) (F0 : List Nat) (L G : List Res) (I : St w0 F0 w (Aa rb (Ez c wb n l) 47 :: L) G) (hin : c.In G) :
    Calls Tryz.prog 18 #[.pointer (some ⟨rb, 0, none⟩)] w fun e w' => ∃ a, e = .returned (.agg (ivs a).toArray) ∧ C0 c nd a ∧ St w0 F0 w' (Aa rb (Ez c wb n l) 47 :: L) G := by
  have hok := hs.ok; have hn6 := Jm hs hnd; have hD := hok.D; have hN := hok.N; have hcl := hs.core; have hll := hs.links; have hn32 : nd ≤ 32 := by omega
  refine W.func func18 O ntmps18 O<|Wh O<|Ow O (X.allocA I zeroValue67 fun p2 w2 I => Ds O O<|Ow O (X.allocA I zeroValue67 fun p3 w3 I => Ds O O<|I.p O O<|I.t O O<|I.f Eb O O<|I.f Fj O O<|I.y O (Y.loadA 2 isAgg23 sizeOf23 O O O O)<|Ow O (X.allocA I zeroValue23 fun p4 w4 I => Ow O (X.storeS I 0 sizeOf23 O O O O O (lZ O) O O fun _ I => Od O<|Wq O<|Wh O<|I.u O O<|Od O<|Wb O<|?_)))); refine W.loop (γ := Nat × List Int) [(0, .pointer _), (2, .pointer _), (3, .pointer _), (4, .pointer _)] (fun x_ => [(18, .int .i64 (x_.1 : Int))]) (fun x_ w => (x_.1 ≤ 48 ∧ F2 c x_.2 x_.1) ∧ St w0 F0 w (Aa p4 (D5 c.p) 23 :: Aa p3 (ivs (x_.2)) 67 :: Aa p2 (ivs (List.replicate 48 0)) 67 :: Aa rb (Ez c wb n l) 47 :: L) G) (fun x_ => 48 - x_.1) ((0, List.replicate 48 0)) O ⟨O, O, O, O, trivial⟩ ?_ ?_ ?_
  · exact ⟨O, trivial⟩
  · exact ⟨⟨Nat.zero_le _, F2.zero c⟩, I⟩
  · clear I; rintro ⟨k, a⟩ j w4 ⟨⟨hk, ha⟩, I⟩; dsimp only at hk ha I; refine Wq O ?_; have hl1 := ha.1; refine Wr O<|I.v O O O (fun b19 hb19 => Od O<|Wq O<|?_); cases b19
    · replace hb19 := dF hb19; refine Wu O O<|W.exit O<|Wq O<|Wh O<|I.p O O<|I.t O O<|I.f Eb O O<|I.f Z6 O O<|I.y O (Y.load 3 isAgg24 O O O)<|I.y O (Y.lenS underlying24 O)<|I.u O O<|Od O<|Wb O<|?_; refine W.loop (γ := Nat × List Int) [(0, .pointer _), (2, .pointer _), (3, .pointer _), (4, .pointer _), (37, .slice _ _ _), (38, .int _ _)] (fun x_ => [(39, .int .i64 (x_.1 : Int))]) (fun x_ w => (x_.1 ≤ c.core.length ∧ C0 c nd x_.2) ∧ St w0 F0 w (Aa p4 (D5 c.p) 23 :: Aa p3 (ivs (x_.2)) 67 :: Aa p2 (ivs (List.replicate 48 0)) 67 :: Aa rb (Ez c wb n l) 47 :: L) G) (fun x_ => c.core.length - x_.1) ((0, a)) O ⟨O, O, O, O, O, O, trivial⟩ ?_ ?_ ?_
      · exact ⟨O, trivial⟩
      · exact ⟨⟨Nat.zero_le _, F2.ok ((show k = 48 by omega) ▸ ha) hn32⟩, I⟩
      · clear I; rintro ⟨k, a⟩ j w11 ⟨⟨hk, ha⟩, I⟩; dsimp only at hk ha I; refine Wq O ?_; have hl1 := ha.1; refine Wr O<|I.v O O O (fun b40 hb40 => Od O<|Wq O<|?_); cases b40
        · replace hb40 := dF hb40; refine Wu O O<|W.exit O<|Wq O<|Wh O<|I.a O O<|Od O<|Wb O<|?_; refine W.loop (γ := Nat × List Int) [(0, .pointer _), (2, .pointer _), (3, .pointer _), (4, .pointer _)] (fun x_ => [(8, .int .i64 (x_.1 : Int))]) (fun x_ w => (x_.1 ≤ c.p.D.toNat ∧ C0 c nd x_.2) ∧ St w0 F0 w (Aa p4 (D5 c.p) 23 :: Aa p3 (ivs (x_.2)) 67 :: Aa p2 (ivs (List.replicate 48 0)) 67 :: Aa rb (Ez c wb n l) 47 :: L) G) (fun x_ => c.p.D.toNat - x_.1) ((0, a)) O ⟨O, O, O, O, trivial⟩ ?_ ?_ ?_
          · exact ⟨O, trivial⟩
          · exact ⟨⟨Nat.zero_le _, ha⟩, I⟩
          · clear I; rintro ⟨n1, a⟩ j w17 ⟨⟨hn1, ha⟩, I⟩; dsimp only at hn1 ha I; refine Wq O<|Wh O<|I.u O O<|I.f Fi O O<|I.l 0 O O O O<|I.v O O O (fun b61 hb61 => Od O<|?_); cases b61
            · replace hb61 := dF hb61; refine Wu O O<|W.exit O<|Wq O<|?_; have hl1 := ha.1; refine Wr rfl<|I.y rfl (Y.loadA 1 isAgg67 sizeOf67 rfl rfl (List.take_of_length_le (by rw [List.drop_zero, D3]; omega)) (by rw [List.drop_zero, D3]; omega))<|?_; refine Ow rfl (X.storeS I 2 sizeOf67 (b := p2) (i := 0) (vs := ivs a) rfl rfl rfl (by rw [D3]; exact hl1) (Yd a) (by rw [D3, List.length_replicate]; exact Nat.le_refl _) (Sg hl1) O fun _ I => ?_); refine Od rfl<|We rfl<|⟨_, Ac.cell results18 rfl (Cq isAgg67 sizeOf67 (by rw [D3]; exact hl1) (fun j v h => by rw [Bx, I.cell (.inl (List.Mem.tail _ (List.Mem.tail _ (List.Mem.head _)))) (0 + j), Nat.zero_add]; exact h)), ?_⟩; exact ⟨a, O, ha, (I.dr 3)⟩
            · replace hb61 := dT hb61; refine Wt O O<|Wk O<|Wq O<|Wb O<|Wh O<|I.p O O<|I.t O O<|I.f Eb O O<|I.f Z7 O O<|I.y O (Y.load 3 isAgg25 O O O)<|I.y O (Y.lenS underlying25 O)<|I.u O O<|Od O<|Wb O<|?_; refine W.loop (γ := Nat × List Int) [(0, .pointer _), (2, .pointer _), (3, .pointer _), (4, .pointer _), (8, .int _ _), (68, .slice _ _ _), (69, .int _ _)] (fun x_ => [(70, .int .i64 (x_.1 : Int))]) (fun x_ w => (x_.1 ≤ c.links.length ∧ C0 c nd x_.2) ∧ St w0 F0 w (Aa p4 (D5 c.p) 23 :: Aa p3 (ivs (x_.2)) 67 :: Aa p2 (ivs (List.replicate 48 0)) 67 :: Aa rb (Ez c wb n l) 47 :: L) G) (fun x_ => c.links.length - x_.1) ((0, a)) O ⟨O, O, O, O, O, O, O, trivial⟩ ?_ ?_ ?_
              · exact ⟨O, trivial⟩
              · exact ⟨⟨Nat.zero_le _, ha⟩, I⟩
              · clear I; rintro ⟨m, a⟩ j w20 ⟨⟨hm, ha⟩, I⟩; dsimp only at hm ha I; refine Wq O ?_; have hl1 := ha.1; refine Wr O<|I.v O O O (fun b71 hb71 => Od O<|Wq O<|?_); cases b71
                · replace hb71 := dF hb71; refine Wu O O<|W.exit O<|Wr O<|I.u O O<|I.j O O O (by omega)<|I.a O O<|Od O<|?_; exact ⟨(n1 + 1, a), ⟨O, trivial⟩, ⟨O, O, O, O, trivial⟩, ⟨⟨by dsimp only; omega, ha⟩, I⟩, by dsimp only; omega⟩
                · replace hb71 := dT hb71; refine Wt O O<|Wk O<|Wq O<|Wb O<|Wq O<|?_; have hm1 : m < c.links.length := by omega
                  refine Wr O<|I.y O (Y.indexAddr underlying25 sizeOf77 O O ((hin.links.hd.sl I).ne (Bh Bw (by decide) (by omega))) (by omega))<|?_; refine I.y O (Y.loadSlA isAgg77 sizeOf77 O hin.links.hd (Bl Bw c.links m hm1) O)<|Ow O (X.allocA I zeroValue77 fun p10 w10 I => Ow O (X.storeS I 0 sizeOf77 O O O O O (lZ O) O O fun _ I => Od O<|Wq O<|Wq O<|W.drawn O (by kernel_rfl) (Ctx _ _ (_) (_)) [] (.op 0 0 (.op 1 0 (.op 2 0 (.op 3 0 (.op 4 0 (.op 5 0 (.op 6 0 (.op 7 0 (.op 8 0 (.op 9 0 (.op 10 0 (.op 11 0 (.op 12 0 (.op 13 0 (.op 14 0 (.op 15 0 (.op 16 0 (.op 17 0 (.op 18 0 (.op 19 0 (.op 20 0 (.op 21 0 (.op 22 0 (.op 23 0 (.op 24 0 (.op 25 0 (.op 26 0 (.op 27 0 .nil)))))))))))))))))))))))))))) O (by kernel_rfl) I.drew.ctx<|?_)); replace I := I.drew; generalize World.drew _ = wd at I ⊢; refine I.zf Iy O O<|I.zl 0 O O O O<|Drw.yb O O O I.ctx (Y.lss O O) (fun b76 hb76 => I.zb O O<|?_); cases b76
                  · replace hb76 := dF hb76; refine I.zf Hq O O<|I.zl 0 O O O O<|Drw.yb O O O I.ctx (Y.lss O O) (fun b80 hb80 => I.zk O O O<|I.zb O O<|?_); cases b80
                    · replace hb80 := dF hb80; refine I.zf Iy O O<|I.zl 0 O O O O<|I.zp O O<|I.zt O O<|I.zf Eb O O<|I.zf L5 O O<|I.zl 4 O O O O<|Drw.yb O O O I.ctx (Y.geq O O) (fun b90 hb90 => I.zk O O O<|I.zb O O<|?_); cases b90
                      · replace hb90 := dF hb90; refine I.zf Hq O O<|I.zl 0 O O O O<|I.zp O O<|I.zt O O<|I.zf Eb O O<|I.zf L5 O O<|I.zl 4 O O O O<|Drw.yb O O O I.ctx (Y.geq O O) (fun b100 hb100 => I.zk O O O<|Dd<|?_); cases b100
                        · replace hb100 := dF hb100; refine Wu O O<|Wk O<|Wq O<|W.drawn O (by kernel_rfl) (Ctx _ _ (_) (_)) [] (.op 0 0 (.op 1 0 (.op 2 0 (.op 3 0 (.op 4 0 (.op 5 0 (.op 6 0 (.op 7 0 .nil)))))))) O (by kernel_rfl) I.drew.ctx<|?_; replace I := I.drew; generalize World.drew _ = wd at I ⊢; refine I.zf Iy O O<|I.zl 0 O O O O<|I.zj O O O (by omega)<|I.zf Hq O O<|I.zl 0 O O O O<|I.zj O O O (by omega)<|I.za O O<|I.za O O<|Dd<|Wq O<|?_; refine W.cut [(0, .pointer _), (2, .pointer _), (3, .pointer _), (4, .pointer _), (8, .int _ _), (11, .int _ _), (12, .int _ _), (68, .slice _ _ _), (69, .int _ _), (70, .int _ _)] (fun x_ : List Int => []) (fun x_ w => C0 c nd x_ ∧ St w0 F0 w (Aa p10 (As c.links[m]) 77 :: Aa p4 (D5 c.p) 23 :: Aa p3 (ivs (x_)) 67 :: Aa p2 (ivs (List.replicate 48 0)) 67 :: Aa rb (Ez c wb n l) 47 :: L) G) ⟨O, O, O, O, O, O, O, O, O, O, trivial⟩ ?_ ?_
                          rotate_left
                          · clear I; rintro a1 j w24 ⟨ha1, I⟩; refine W.cut [(0, .pointer _), (2, .pointer _), (3, .pointer _), (4, .pointer _), (8, .int _ _), (68, .slice _ _ _), (69, .int _ _), (70, .int _ _)] (fun x_ : List Int => []) (fun x_ w => C0 c nd x_ ∧ St w0 F0 w (Aa p10 (As c.links[m]) 77 :: Aa p4 (D5 c.p) 23 :: Aa p3 (ivs (x_)) 67 :: Aa p2 (ivs (List.replicate 48 0)) 67 :: Aa rb (Ez c wb n l) 47 :: L) G) ⟨O, O, O, O, O, O, O, O, trivial⟩ ?_ ?_
                            rotate_left
                            · clear I; rintro a2 j w26 ⟨ha2, I⟩; refine Wr O<|I.j O O O (by omega)<|I.u O O<|Od O<|?_
                              first
                              | exact ⟨(m + 1, a2), ⟨O, trivial⟩, ⟨O, O, O, O, O, O, O, trivial⟩, ⟨⟨by dsimp only; omega, ha2⟩, (I.dr 1)⟩, by dsimp only; omega⟩
                              | exact ⟨(m + 1, a), ⟨O, trivial⟩, ⟨O, O, O, O, O, O, O, trivial⟩, ⟨⟨by dsimp only; omega, ha⟩, (I.dr 1)⟩, by dsimp only; omega⟩
                            refine Wq O ?_; have hl1 := ha1.1; refine Wr O<|I.u O O<|I.y O (Y.cast (Y.indexAddrA underlying67 sizeOf3 O O (by omega)) (congrArg (fun z => Value.pointer (some ⟨p3, z, none⟩)) (show 0 + (16 + c.links[m].2).toNat * 1 = 16 + c.links[m].2.toNat by omega)))<|?_; refine I.y O (Y.load 2 isAgg3 O O (Ko (i := 16 + c.links[m].2.toNat) (by omega)))<|I.u O O<|I.Y O O O (fun b129 hb129 => I.b O O<|?_); cases b129
                            · replace hb129 := dF hb129; refine On O<|On O<|On O<|On O<|On O<|On O<|I.k O O O<|Od O<|Wu O O<|Wk O<|?_
                              first
                              | exact ⟨_, trivial, ⟨O, O, O, O, O, O, O, O, trivial⟩, ⟨ha1, I⟩⟩
                              | exact ⟨_, trivial, ⟨O, O, O, O, O, O, O, O, trivial⟩, ⟨Om ha1 hs hnd (List.getElem_mem hm1) (u := c.links[m].2) (v := c.links[m].1) (.inr O) (by omega) (by omega) (by omega) (by omega) (by omega) hb129, I⟩⟩
                            · replace hb129 := dT hb129; refine I.u O O<|I.y O (Y.cast (Y.indexAddrA underlying67 sizeOf3 O O (by omega)) (congrArg (fun z => Value.pointer (some ⟨p3, z, none⟩)) (show 0 + (16 + c.links[m].1).toNat * 1 = 16 + c.links[m].1.toNat by omega)))<|?_; refine I.y O (Y.load 2 isAgg3 O O (Ko (i := 16 + c.links[m].1.toNat) (by omega)))<|I.u O O<|I.j O O O (by omega)<|I.V O O O (fun b136 hb136 => I.k O O O<|Od O<|?_); cases b136
                              · replace hb136 := dF hb136; refine Wu O O<|Wk O<|?_
                                first
                                | exact ⟨_, trivial, ⟨O, O, O, O, O, O, O, O, trivial⟩, ⟨ha1, I⟩⟩
                                | exact ⟨_, trivial, ⟨O, O, O, O, O, O, O, O, trivial⟩, ⟨Om ha1 hs hnd (List.getElem_mem hm1) (u := c.links[m].2) (v := c.links[m].1) (.inr O) (by omega) (by omega) (by omega) (by omega) (by omega) hb129, I⟩⟩
                              · replace hb136 := dT hb136; refine Wt O O<|Wr O<|I.u O O<|I.u O O<|I.j O O O (by omega)<|I.y O (Y.cast (Y.indexAddrA underlying67 sizeOf3 O O (by omega)) (congrArg (fun z => Value.pointer (some ⟨p3, z, none⟩)) (show 0 + (16 + c.links[m].1).toNat * 1 = 16 + c.links[m].1.toNat by omega)))<|?_; refine Ow rfl (X.store I 2 sizeOf3 (b := p3) (i := 16 + c.links[m].1.toNat) rfl rfl rfl rfl (by rw [D3]; omega) (Nc a1 _ ((n1 : Int) + 1)) rfl fun _ I => ?_); refine Od O ?_
                                first
                                | exact ⟨_, trivial, ⟨O, O, O, O, O, O, O, O, trivial⟩, ⟨ha1, I⟩⟩
                                | exact ⟨_, trivial, ⟨O, O, O, O, O, O, O, O, trivial⟩, ⟨Om ha1 hs hnd (List.getElem_mem hm1) (u := c.links[m].2) (v := c.links[m].1) (.inr O) (by omega) (by omega) (by omega) (by omega) (by omega) hb129, I⟩⟩
                          refine Wq O ?_; have hl1 := ha.1; refine Wr O<|I.u O O<|I.y O (Y.cast (Y.indexAddrA underlying67 sizeOf3 O O (by omega)) (congrArg (fun z => Value.pointer (some ⟨p3, z, none⟩)) (show 0 + (16 + c.links[m].1).toNat * 1 = 16 + c.links[m].1.toNat by omega)))<|?_; refine I.y O (Y.load 2 isAgg3 O O (Ko (i := 16 + c.links[m].1.toNat) (by omega)))<|I.u O O<|I.Y O O O (fun b112 hb112 => I.b O O<|?_); cases b112
                          · replace hb112 := dF hb112; refine On O<|On O<|On O<|On O<|On O<|On O<|I.k O O O<|Od O<|Wu O O<|Wk O<|?_
                            first
                            | exact ⟨_, trivial, ⟨O, O, O, O, O, O, O, O, O, O, trivial⟩, ⟨ha, I⟩⟩
                            | exact ⟨_, trivial, ⟨O, O, O, O, O, O, O, O, O, O, trivial⟩, ⟨Om ha hs hnd (List.getElem_mem hm1) (u := c.links[m].1) (v := c.links[m].2) (.inl O) (by omega) (by omega) (by omega) (by omega) (by omega) hb112, I⟩⟩
                          · replace hb112 := dT hb112; refine I.u O O<|I.y O (Y.cast (Y.indexAddrA underlying67 sizeOf3 O O (by omega)) (congrArg (fun z => Value.pointer (some ⟨p3, z, none⟩)) (show 0 + (16 + c.links[m].2).toNat * 1 = 16 + c.links[m].2.toNat by omega)))<|?_; refine I.y O (Y.load 2 isAgg3 O O (Ko (i := 16 + c.links[m].2.toNat) (by omega)))<|I.u O O<|I.j O O O (by omega)<|I.V O O O (fun b119 hb119 => I.k O O O<|Od O<|?_); cases b119
                            · replace hb119 := dF hb119; refine Wu O O<|Wk O<|?_
                              first
                              | exact ⟨_, trivial, ⟨O, O, O, O, O, O, O, O, O, O, trivial⟩, ⟨ha, I⟩⟩
                              | exact ⟨_, trivial, ⟨O, O, O, O, O, O, O, O, O, O, trivial⟩, ⟨Om ha hs hnd (List.getElem_mem hm1) (u := c.links[m].1) (v := c.links[m].2) (.inl O) (by omega) (by omega) (by omega) (by omega) (by omega) hb112, I⟩⟩
                            · replace hb119 := dT hb119; refine Wt O O<|Wr O<|I.u O O<|I.u O O<|I.j O O O (by omega)<|I.y O (Y.cast (Y.indexAddrA underlying67 sizeOf3 O O (by omega)) (congrArg (fun z => Value.pointer (some ⟨p3, z, none⟩)) (show 0 + (16 + c.links[m].2).toNat * 1 = 16 + c.links[m].2.toNat by omega)))<|?_; refine Ow rfl (X.store I 2 sizeOf3 (b := p3) (i := 16 + c.links[m].2.toNat) rfl rfl rfl rfl (by rw [D3]; omega) (Nc a _ ((n1 : Int) + 1)) rfl fun _ I => ?_); refine Od O ?_
                              first
                              | exact ⟨_, trivial, ⟨O, O, O, O, O, O, O, O, O, O, trivial⟩, ⟨ha, I⟩⟩
                              | exact ⟨_, trivial, ⟨O, O, O, O, O, O, O, O, O, O, trivial⟩, ⟨Om ha hs hnd (List.getElem_mem hm1) (u := c.links[m].1) (v := c.links[m].2) (.inl O) (by omega) (by omega) (by omega) (by omega) (by omega) hb112, I⟩⟩
                        · replace hb100 := dT hb100; refine Wt O O<|W.exit O<|Wr O<|I.j O O O (by omega)<|I.u O O<|Od O<|?_
                          first
                          | exact ⟨(m + 1, a2), ⟨O, trivial⟩, ⟨O, O, O, O, O, O, O, trivial⟩, ⟨⟨by dsimp only; omega, ha2⟩, (I.dr 1)⟩, by dsimp only; omega⟩
                          | exact ⟨(m + 1, a), ⟨O, trivial⟩, ⟨O, O, O, O, O, O, O, trivial⟩, ⟨⟨by dsimp only; omega, ha⟩, (I.dr 1)⟩, by dsimp only; omega⟩
                      · replace hb90 := dT hb90; refine I.o O<|I.o O<|I.o O<|I.o O<|I.o O<|I.o O<|I.o O<|I.o O<|I.zk O O O<|Dd<|Wt O O<|W.exit O<|Wr O<|I.j O O O (by omega)<|I.u O O<|Od O<|?_
                        first
                        | exact ⟨(m + 1, a2), ⟨O, trivial⟩, ⟨O, O, O, O, O, O, O, trivial⟩, ⟨⟨by dsimp only; omega, ha2⟩, (I.dr 1)⟩, by dsimp only; omega⟩
                        | exact ⟨(m + 1, a), ⟨O, trivial⟩, ⟨O, O, O, O, O, O, O, trivial⟩, ⟨⟨by dsimp only; omega, ha⟩, (I.dr 1)⟩, by dsimp only; omega⟩
                    · replace hb80 := dT hb80; refine I.o O<|I.o O<|I.o O<|I.o O<|I.o O<|I.o O<|I.o O<|I.o O<|I.zk O O O<|I.zb O O<|I.o O<|I.o O<|I.o O<|I.o O<|I.o O<|I.o O<|I.o O<|I.o O<|I.zk O O O<|Dd<|Wt O O<|W.exit O<|Wr O<|I.j O O O (by omega)<|I.u O O<|Od O<|?_
                      first
                      | exact ⟨(m + 1, a2), ⟨O, trivial⟩, ⟨O, O, O, O, O, O, O, trivial⟩, ⟨⟨by dsimp only; omega, ha2⟩, (I.dr 1)⟩, by dsimp only; omega⟩
                      | exact ⟨(m + 1, a), ⟨O, trivial⟩, ⟨O, O, O, O, O, O, O, trivial⟩, ⟨⟨by dsimp only; omega, ha⟩, (I.dr 1)⟩, by dsimp only; omega⟩
                  · replace hb76 := dT hb76; refine I.o O<|I.o O<|I.o O<|I.zk O O O<|I.zb O O<|I.o O<|I.o O<|I.o O<|I.o O<|I.o O<|I.o O<|I.o O<|I.o O<|I.zk O O O<|I.zb O O<|I.o O<|I.o O<|I.o O<|I.o O<|I.o O<|I.o O<|I.o O<|I.o O<|I.zk O O O<|Dd<|Wt O O<|W.exit O<|Wr O<|I.j O O O (by omega)<|I.u O O<|Od O<|?_
                    first
                    | exact ⟨(m + 1, a2), ⟨O, trivial⟩, ⟨O, O, O, O, O, O, O, trivial⟩, ⟨⟨by dsimp only; omega, ha2⟩, (I.dr 1)⟩, by dsimp only; omega⟩
                    | exact ⟨(m + 1, a), ⟨O, trivial⟩, ⟨O, O, O, O, O, O, O, trivial⟩, ⟨⟨by dsimp only; omega, ha⟩, (I.dr 1)⟩, by dsimp only; omega⟩
        · replace hb40 := dT hb40; refine Wt O O<|Wk O<|Wq O<|Wb O<|Wq O<|?_; have hk1 : k < c.core.length := by omega
          refine Wr rfl<|I.y rfl (Y.indexAddr underlying24 sizeOf3 rfl rfl ((hin.core.hd.sl I).ne (by rw [D3]; omega)) (by omega))<|?_; refine I.y O (Y.cast (Y.loadSl isAgg3 O hin.core.hd (D2 hk1)) (congrArg (Value.int .i64) (show c.core.getD k 0 = c.core[k] by simp [hk1]))) ?_; refine I.a O O<|Ds O O<|I.u O O<|I.W O O O (fun b44 hb44 => I.b O O<|?_); cases b44
          · replace hb44 := dF hb44; refine On O<|On O<|On O<|On O<|On O<|On O<|On O<|I.k O O O<|Od O<|Wu O O<|Wk O<|Wr O<|I.j O O O (by omega)<|I.u O O<|Od O<|?_
            first
            | exact ⟨(k + 1, a), ⟨O, trivial⟩, ⟨O, O, O, O, O, O, trivial⟩, ⟨⟨by dsimp only; omega, ha⟩, I⟩, by dsimp only; omega⟩
            | exact ⟨(k + 1, a.set (16 + c.core[k].toNat) 0), ⟨O, trivial⟩, ⟨O, O, O, O, O, O, trivial⟩, ⟨⟨by dsimp only; omega, Uz ha hs hnd (List.getElem_mem hk1) (by omega) (by omega)⟩, I⟩, by dsimp only; omega⟩
          · replace hb44 := dT hb44; refine I.u O O<|I.p O O<|I.t O O<|I.f Eb O O<|I.f L5 O O<|I.l 3 O O O O<|I.v O O O (fun b52 hb52 => I.k O O O<|Od O<|?_); cases b52
            · replace hb52 := dF hb52; refine Wu O O<|Wk O<|Wr O<|I.j O O O (by omega)<|I.u O O<|Od O<|?_
              first
              | exact ⟨(k + 1, a), ⟨O, trivial⟩, ⟨O, O, O, O, O, O, trivial⟩, ⟨⟨by dsimp only; omega, ha⟩, I⟩, by dsimp only; omega⟩
              | exact ⟨(k + 1, a.set (16 + c.core[k].toNat) 0), ⟨O, trivial⟩, ⟨O, O, O, O, O, O, trivial⟩, ⟨⟨by dsimp only; omega, Uz ha hs hnd (List.getElem_mem hk1) (by omega) (by omega)⟩, I⟩, by dsimp only; omega⟩
            · replace hb52 := dT hb52; refine Wt O O<|Wr O<|I.u O O<|I.j O O O (by omega)<|I.y O (Y.cast (Y.indexAddrA underlying67 sizeOf3 O O (by omega)) (congrArg (fun z => Value.pointer (some ⟨p3, z, none⟩)) (show 0 + (16 + c.core[k]).toNat * 1 = 16 + c.core[k].toNat by omega)))<|?_; refine Ow rfl (X.store I 1 sizeOf3 (b := p3) (i := 16 + c.core[k].toNat) rfl rfl rfl rfl (by rw [D3]; omega) (Nc a _ 0) rfl fun _ I => ?_); refine Od O<|Wr O<|I.j O O O (by omega)<|I.u O O<|Od O<|?_
              first
              | exact ⟨(k + 1, a), ⟨O, trivial⟩, ⟨O, O, O, O, O, O, trivial⟩, ⟨⟨by dsimp only; omega, ha⟩, I⟩, by dsimp only; omega⟩
              | exact ⟨(k + 1, a.set (16 + c.core[k].toNat) 0), ⟨O, trivial⟩, ⟨O, O, O, O, O, O, trivial⟩, ⟨⟨by dsimp only; omega, Uz ha hs hnd (List.getElem_mem hk1) (by omega) (by omega)⟩, I⟩, by dsimp only; omega⟩
    · replace hb19 := dT hb19; refine Wt O O<|Wk O<|Wq O<|Wb O<|Wh O<|I.u O O<|I.a O O<|Ds O O<|I.u O O<|I.f Fi O O<|I.l 0 O O O O<|I.j O O O (by omega)<|I.y O (Y.cast (Y.indexAddrA underlying67 sizeOf3 O O (by omega)) (congrArg (fun z => Value.pointer (some ⟨p3, z, none⟩)) (show 0 + ((k : Int)).toNat * 1 = k by omega)))<|?_; refine Ow rfl (X.store I 1 sizeOf3 (b := p3) (i := k) rfl rfl rfl rfl (by rw [D3]; omega) (Nc a _ (c.p.D + 1)) rfl fun _ I => ?_); refine Ds O O<|I.u O O<|I.f Fh O O<|I.l 0 O O O O<|I.v O O O (fun b29 hb29 => Od O<|?_); cases b29
      · replace hb29 := dF hb29; refine Wu O O<|Wk O<|Wr O<|I.j O O O (by omega)<|I.u O O<|Od O<|?_
        first
        | exact ⟨(k + 1, a.set k (c.p.D + 1)), ⟨O, trivial⟩, ⟨O, O, O, O, trivial⟩, ⟨⟨by dsimp only; omega, ha.set hD (by omega)⟩, I⟩, by dsimp only; omega⟩
        | exact ⟨(k + 1, (a.set k (c.p.D + 1)).set k 0), ⟨O, trivial⟩, ⟨O, O, O, O, trivial⟩, ⟨⟨by dsimp only; omega, (ha.set hD (by omega)).gate (by omega)⟩, I⟩, by dsimp only; omega⟩
      · replace hb29 := dT hb29; refine Wt O O<|Wr O<|I.u O O<|I.y O (Y.cast (Y.indexAddrA underlying67 sizeOf3 O O (by omega)) (congrArg (fun z => Value.pointer (some ⟨p3, z, none⟩)) (show 0 + ((k : Int)).toNat * 1 = k by omega)))<|?_; refine Ow rfl (X.store I 1 sizeOf3 (b := p3) (i := k) rfl rfl rfl rfl (by rw [D3, List.length_set]; omega) (Nc (a.set k (c.p.D + 1)) _ 0) rfl fun _ I => ?_); refine Od O<|Wr O<|I.j O O O (by omega)<|I.u O O<|Od O<|?_
        first
        | exact ⟨(k + 1, a.set k (c.p.D + 1)), ⟨O, trivial⟩, ⟨O, O, O, O, trivial⟩, ⟨⟨by dsimp only; omega, ha.set hD (by omega)⟩, I⟩, by dsimp only; omega⟩
        | exact ⟨(k + 1, (a.set k (c.p.D + 1)).set k 0), ⟨O, trivial⟩, ⟨O, O, O, O, trivial⟩, ⟨⟨by dsimp only; omega, (ha.set hD (by omega)).gate (by omega)⟩, I⟩, by dsimp only; omega⟩
end
section
open Tryz Go.RowKit YtaanjifekgfemaaGreat.K YtaanjifekgfemaaGreat.W YtaanjifekgfemaaGreat.LN
def Xk (p : Par) (who : Int) : Prop := 16 ≤ who ∨ who < p.N - p.F
def Kc (c : Cs) (nd : Nat) (who : Int) : Prop := Xk c.p who ∧ (who < 16 ∨ ∃ (v k : Nat), who = 16 + (v : Int) ∧ (k : Int) ≤ c.p.D ∧ Near c nd k v)
def Us (c : Cs) (nd : Nat) (x : Wd) : Prop := (∀ m ∈ x.ms, Kc c nd m.u.who → Bf c.p m.u.s ≠ 0) ∧ ∀ m ∈ x.ms, ∀ m' ∈ x.ms, Kc c nd m.u.who → Kc c nd m'.u.who → Bp c.p m.u.s.time - Bp c.p m'.u.s.time ≤ 1
theorem At7 {c : Cs} {nd : Nat} {a : List Int} (h : C0 c nd a) (hnd : nd ≤ 6) {N : Nat} (hN : N ≤ 7) {who : Int} (hw : who ∈ Ak N nd) (hr : Xk c.p who) (hs : a.getD who.toNat 0 ≤ c.p.D) : Kc c nd who := by
  refine ⟨hr, ?_⟩; rw [C7] at hw; rcases hw with hw | hw
  · exact .inl (by omega)
  · refine .inr ⟨(who - 16).toNat, (a.getD who.toNat 0).toNat, by omega, ?_, ?_⟩
    · have := (h.2.1 who.toNat (by omega)).1; omega
    · have h2 := h.2.2 (who - 16).toNat (by omega); rw [show 16 + (who - 16).toNat = who.toNat by omega] at h2; exact h2 hs
def Qd (c : Cs) (nd : Nat) (x : Wd) (lo hi : Int) (b : Bool) : Prop := (b = false → lo = 0 ∧ hi = 0) ∧ (b = true → (∃ m ∈ x.ms, Kc c nd m.u.who ∧ lo = Bp c.p m.u.s.time) ∧ ∃ m ∈ x.ms, Kc c nd m.u.who ∧ hi = Bp c.p m.u.s.time)
theorem Qd.start (c : Cs) (nd : Nat) (x : Wd) : Qd c nd x 0 0 false := ⟨fun _ => ⟨rfl, rfl⟩, (fun h => by cases h)⟩
theorem Qd.step {c : Cs} {nd : Nat} {x : Wd} {lo hi lo' hi' : Int} {b : Bool} (h : Qd c nd x lo hi b) {m : UM} (hm : m ∈ x.ms) (ha : Kc c nd m.u.who) (hl : (b = false → lo' = Bp c.p m.u.s.time) ∧ (b = true → lo' = min lo (Bp c.p m.u.s.time)))
    (hh : (b = false → hi' = Bp c.p m.u.s.time) ∧ (b = true → hi' = max hi (Bp c.p m.u.s.time))) : Qd c nd x lo' hi' true := by
  refine ⟨(fun h => by cases h), fun _ => ?_⟩
  cases b with
  | false => exact ⟨⟨m, hm, ha, hl.1 rfl⟩, m, hm, ha, hh.1 rfl⟩
  | true =>
    obtain ⟨h1, h2⟩ := h.2 rfl; refine ⟨?_, ?_⟩
    · rcases (show lo' = lo ∨ lo' = Bp c.p m.u.s.time by have := hl.2 rfl; omega) with e | e
      · rw [e]; exact h1
      · exact ⟨m, hm, ha, e⟩
    · rcases (show hi' = hi ∨ hi' = Bp c.p m.u.s.time by have := hh.2 rfl; omega) with e | e
      · rw [e]; exact h2
      · exact ⟨m, hm, ha, e⟩
theorem Qd.ok {c : Cs} {nd : Nat} {x : Wd} {lo hi : Int} {b : Bool} (h : Qd c nd x lo hi b) (hb : Us c nd x) : hi - lo ≤ 1 := by
  cases b with
  | false => have := h.1 rfl; omega
  | true =>
    obtain ⟨⟨m, hm, ha, rfl⟩, m', hm', ha', rfl⟩ := h.2 rfl; exact hb.2 m' hm' m hm ha' ha
theorem Qd.range {c : Cs} {nd : Nat} {x : Wd} {lo hi : Int} {b : Bool} (h : Qd c nd x lo hi b) : (-2305843009213693952 ≤ lo ∧ lo ≤ 2305843009213693952) ∧ -2305843009213693952 ≤ hi ∧ hi ≤ 2305843009213693952 := by
  cases b with
  | false => have := h.1 rfl; omega
  | true =>
    obtain ⟨⟨m, hm, ha, rfl⟩, m', hm', ha', rfl⟩ := h.2 rfl; exact ⟨Nl _ _, Nl _ _⟩
end
section
open Tryz Go.RowKit YtaanjifekgfemaaGreat.K YtaanjifekgfemaaGreat.W YtaanjifekgfemaaGreat.LN
attribute [local irreducible] Bc Aj Bb sub neg mag C4 mul Dc
theorem Bs9 : CF 14 := fun _ _ => by simp [go_sem]
theorem Bsq : CF 15 := fun _ _ => by simp [go_sem]
theorem Bsx : CF 17 := fun _ _ => by simp [go_sem]
theorem Bsz : CF 18 := fun _ _ => by simp [go_sem]
theorem A08 {x : Wd} {k : Nat} {m : UM} (hk : x.ms[k]? = some m) (p : Par) (wb : Nat) (hhe : ¬ Bf p m.u.s = 0) (w0 w : World) (F0 : List Nat) (L G : List Res) (I : St w0 F0 w (x.res p wb L) G) :
    Calls Tryz.prog 19 #[.pointer (some ⟨m.fb, 0, none⟩)] w fun e w' => e = .returned (.tuple #[.int .i64 (Bp p m.u.s.time), .int .i64 0]) ∧ St w0 F0 w' (x.res p wb L) G := by
  refine (Bc7 hk p wb _ _ _ _ _ I).mono ?_; rintro e w' ⟨⟨n, h1, h2⟩, I⟩; rw [if_neg hhe] at h1 h2; subst h2; exact ⟨h1, I⟩
set_option maxHeartbeats 8000000 in
theorem Acx (tbl : List Int) (htl : tbl.length = 20) (c : Cs) (beats : Int) (hmath : ∀ (nd b : Nat) (x : Wd) (n l : Nat), c.Small beats → c.nodes = (nd : Int) → (settle c.p).toNat ≤ b → b ≤ 200 → Ar0 c.p c.p.Hold ≤ c.p.Pulse → RunT c nd b x n l → Us c nd x) (w0 w : World) (F0 : List Nat) (L G : List Res) (I : St w0 F0 w L G) (hin : c.In G) (hrn : Rds [] G (.slice none 0 0) 0 []) (hpw : Gt tbl ∈ G) :
    Calls Tryz.prog 5 #[.agg (csC c).toArray, .int .i64 beats] w fun e w' => e = .returned (.bool true) ∧ ∃ G', (∀ r ∈ G, r ∈ G') ∧ St w0 F0 w' L G' := by
  refine W.func func5 O ntmps5 O<|Wh O<|Ow O (X.boxA I O fun p2 w2 I => I.g O O<|Od O<|Wq O<|Wh O<|Ow O (X.ret cf6 (Ak7 tbl htl _ _ _ _ _ I hrn hpw) O fun _ I => I.q O O<|Od O<|Wu O O<|Wk O<|Wq O<|Wq O<|W.drawn O (by kernel_rfl) (Ctx _ _ (_) (_)) [] (.op 0 0 (.op 1 0 (.op 2 1 (.op 3 0 (.op 4 0 (.op 5 0 (.op 6 0 (.op 7 0 (.op 8 0 (.op 9 0 (.op 10 0 (.op 11 0 (.op 12 1 (.op 13 0 (.op 14 0 .nil))))))))))))))) O (by kernel_rfl) I.drew.ctx<|?_)); replace I := I.drew; generalize World.drew _ = wd at I ⊢; refine I.z O (Y.loadA 0 isAgg30 sizeOf30 O O O O)<|I.zu O O<|Dw O (X.call cf7 O<|?_); refine Ab (An1 c beats _ _ _ _ _ I hin) O ?_; clear I; rintro e w19 ⟨b19, rfl, hgr, I⟩; have hb19 : b19 = decide (b19 = true) := (by cases b19 <;> rfl); refine ⟨_, O, ⟨I.ctx, ?_⟩⟩; refine I.zb O O ?_; cases b19
  · replace hb19 := dF hb19; refine I.zf Fj O O<|I.zf U9 O O<|I.zl 0 O O O O<|I.zf Fj O O<|I.z O (Y.loadA 0 isAgg23 sizeOf23 O O O O)<|I.zf Fj O O<|I.zf Qx O O<|I.zl 0 O O O O<|Dw O (X.ret Bsx (A35 c.p _ _ _ _ _ _ I) O fun _ I => ⟨I.ctx, Drw.yb O O O I.ctx (Y.lss O O) (fun b30 hb30 => I.zk O O O<|Dd<|?_)⟩); cases b30
    · replace hb30 := dF hb30; refine Wu O O<|Wk O<|Wq O<|?_; have hs := hgr rfl; obtain ⟨nd, hnd⟩ : ∃ nd : Nat, c.nodes = (nd : Int) := ⟨c.nodes.toNat, by have := hs.nodes; omega⟩; have hok := hs.ok; have hn6 := Jm hs hnd; have hnd2 : nd ≤ 32 := by omega
      have hN1 := hok.N; have hbe := hs.beats; have hse := hs.settle; have hs0 := Ud hok; have hpl : Ar0 c.p c.p.Hold ≤ c.p.Pulse := by omega
      refine Wr O<|I.y O (Y.loadA 0 isAgg30 sizeOf30 O O O O)<|Oc O Bs9 O ?_; refine Ab (Yv tbl htl c beats hs nd hnd _ _ _ _ _ I hin hrn hpw) O ?_; clear I; rintro e w33 ⟨rb, wb, x0, n0, l0, G1, rfl, hrun0, hx0, hG1, I⟩; replace I := ((I.resDn [_]).resUp [_, _]).up_1; refine ⟨_, O, ?_⟩; refine I.y O (Y.assignP O)<|Od O<|Wq O<|Wh O<|I.p O O<|I.y O (Y.isNil underlying34 O O)<|Od O<|Wu O O<|Wk O<|Wh O<|I.p O O<|Oc O Bsz O ?_; refine Ab (Ar6 rb c beats hs nd hnd wb n0 l0 _ _ _ _ _ I.up_1 (hin.moreC hG1)) O ?_; clear I; rintro e w37 ⟨a, rfl, ha, I⟩; replace I := I.dn1; refine ⟨_, O, ?_⟩; refine Ow rfl (X.allocA I zeroValue67 fun p6 w6 I => Ow rfl (X.storeS I 0 sizeOf67 (b := p6) (i := 0) (cs := ivs (List.replicate 48 0)) (vs := ivs a) rfl rfl rfl (by rw [D3]; exact ha.1) (Yd a) (by rw [D3, List.length_replicate]; exact Nat.le_refl _) (Sg ha.1) O fun _ I => ?_)); refine Od O<|Wq O<|Wh O<|I.a O O<|Od O<|Wb O<|?_; refine W.loop (γ := Nat × Wd × Nat × Nat × List Res) [(1, .int _ _), (2, .pointer _), (5, .pointer _), (6, .pointer _)] (fun x_ => [(7, .int .i64 (x_.1 : Int))]) (fun x_ w => ((x_.1 : Int) ≤ beats + 1 ∧ RunT c nd ((settle c.p).toNat + x_.1) x_.2.1 x_.2.2.1 x_.2.2.2.1 ∧ x_.2.1.Ok c.p nd x_.2.2.2.2 ∧ ∀ r ∈ G, r ∈ x_.2.2.2.2) ∧ St w0 F0 w (Aa p6 (ivs a) 67 :: Aa p2 (csC c) 30 :: Aa rb (Ez c wb (x_.2.2.1) (x_.2.2.2.1)) 47 :: x_.2.1.res c.p wb L) x_.2.2.2.2) (fun x_ => (beats + 1).toNat - x_.1) ((0, x0, n0, l0, G1)) O ⟨O, O, O, O, trivial⟩ ?_ ?_ ?_
      · exact ⟨O, trivial⟩
      · exact ⟨⟨by dsimp only; omega, hrun0, hx0, hG1⟩, I⟩
      · clear I; rintro ⟨b, x, n, l, G1⟩ j w10 ⟨⟨hb, hrun, hx, hG1⟩, I⟩; dsimp only at hb hrun hx hG1 I; refine Wq O<|Wh O<|I.u O O<|I.u O O<|I.X O O O (fun b40 hb40 => Od O<|?_); cases b40
        · replace hb40 := dF hb40; refine Wu O O<|W.exit O<|Wh O<|I.g O O<|Od O<|We O<|⟨_, Ac.one results5 O, ?_⟩
          first
          | exact ⟨O, G, fun _ h => h, (I.dr 3)⟩
          | exact ⟨O, G1, hG1, (I.dr 3).sub (P1 _ _ _ _)⟩
        · replace hb40 := dT hb40; refine Wt O O<|Wk O<|Wq O<|Wb O<|Wh O<|I.a O O<|I.a O O<|I.g O O<|Od O<|Wq O<|Wq O<|?_; have hbt := hmath nd ((settle c.p).toNat + b) x n l hs hnd (Nat.le_add_right _ _) (by omega) hpl hrun; refine Wr O<|I.p O O<|Oc O Bm6 O ?_; refine Ab (Uo rb c wb n l hok nd hnd hnd2 _ _ _ _ _ I.up_2) O ?_; clear I; rintro e w44 ⟨A44, c44, rfl, I⟩; replace I := I.up_1.dn3; refine ⟨_, O, ?_⟩; refine I.y O (Y.lenS underlying24 O)<|I.u O O<|Od O<|Wb O<|?_; refine W.loop (γ := Nat × Int × Int × Bool) [(1, .int _ _), (2, .pointer _), (5, .pointer _), (6, .pointer _), (7, .int _ _), (44, .slice _ _ _), (45, .int _ _)] (fun x_ => [(46, .int .i64 (x_.1 : Int)), (8, .int .i64 x_.2.1), (9, .int .i64 x_.2.2.1), (10, .bool x_.2.2.2)]) (fun x_ w => (x_.1 ≤ c.p.N.toNat + nd ∧ Qd c nd x x_.2.1 x_.2.2.1 x_.2.2.2) ∧ St w0 F0 w (Af (.slice A44 (c.p.N.toNat + nd) c44) 3 1 (c.p.N.toNat + nd) (ivs ((Ak c.p.N.toNat nd))) :: Aa p6 (ivs a) 67 :: Aa p2 (csC c) 30 :: Aa rb (Ez c wb (n) (l)) 47 :: x.res c.p wb L) G1) (fun x_ => c.p.N.toNat + nd - x_.1) ((0, 0, 0, false)) O ⟨O, O, O, O, O, O, O, trivial⟩ ?_ ?_ ?_
          · exact ⟨O, O, O, O, trivial⟩
          · exact ⟨⟨Nat.zero_le _, Qd.start c nd x⟩, I⟩
          · clear I; rintro ⟨i, lo, hi, b10⟩ j w14 ⟨⟨hi1, hsn⟩, I⟩; dsimp only at hi1 hsn I; have hb10 : b10 = decide (b10 = true) := (by cases b10 <;> rfl); refine Wh O<|I.v O O O (fun b47 hb47 => Od O<|Wq O<|?_); cases b47
            · replace hb47 := dF hb47; refine Wu O O<|W.exit O<|Wq O<|Wq O<|?_; have hrg := hsn.range; refine Wr rfl<|I.u rfl rfl<|I.u rfl rfl<|I.y rfl (Y.subI rfl rfl (by dsimp only; omega))<|?_; refine I.V O O O (fun b95 hb95 => Od O<|?_); cases b95
              · replace hb95 := dF hb95; refine Wu O O<|Wk O<|?_; replace I := I.drop; refine Wr O<|I.p O O<|Oc O Bn9 O ?_; refine Ab (T4 tbl htl rb c wb n l nd hnd hn6 hok hs.N hs.noise hs.lies (by have := (hrun.nl hs.N hn6).1; omega) (by have := (hrun.nl hs.N hn6).2; omega) x (Ak c.p.N.toNat nd) rfl (by rw [hrun.links]; exact Nat.le_trans (Xz hs) (by decide)) hrun.time_in _ _ _ _ _ ((I.up_2.resDn [_, _, _]).resUp [_]) hx (hin.moreC hG1) (hrn.moreG hG1) (hG1 _ hpw)) O ?_; clear I; rintro e w97 ⟨stp, x2, G3, G2, rfl, hof, hst9, hx2, hG2, I⟩; replace I := ((I.resDn [_]).resUp [_, _, _]).dn2; refine ⟨_, O, ?_⟩; refine Od O<|Wr O<|I.u O O<|I.j O O O (by omega)<|I.a O O<|Od O<|?_; exact ⟨(b + 1, x2, _, _, G2), ⟨O, trivial⟩, ⟨O, O, O, O, trivial⟩, ⟨⟨by dsimp only; omega, RunT.step hrun hx hx2 hof (hst9.reG hG2), hx2, fun r hr => hG2 r (hG1 r hr)⟩, I⟩, by dsimp only; omega⟩
              · replace hb95 := dT hb95; exfalso; have := hsn.ok hbt; dsimp only at hb95; omega
            · replace hb47 := dT hb47; refine Wt O O<|Wk O<|Wq O<|Wb O<|Wq O<|?_; have hil : i < c.p.N.toNat + nd := by omega
              have hml := hx.len; obtain ⟨m, hm⟩ : ∃ m, x.ms[i]? = some m := ⟨_, List.getElem?_eq_getElem (by omega)⟩; have hmm := List.mem_of_getElem? hm
              have hwi : ((Ak c.p.N.toNat nd)).getD i 0 = m.u.who := by
                rw [List.getD_eq_getElem?_getD, ← hx.who]; unfold Fw; rw [List.getElem?_map, hm]; rfl
              have hwr := V9 hx hok hnd2 m hmm; have hmw : m.u.who ∈ (Ak c.p.N.toNat nd) := by rw [← hx.who]; exact List.mem_map.2 ⟨m, hmm, O⟩
              have hpr := Nl c.p m.u.s.time; have hal := ha.1; refine Wr rfl<|I.y rfl (Y.indexAddr underlying24 sizeOf3 rfl rfl ((Rds.sl (Rds.rowL 0 (by rfl)) I).ne (by unfold ivs; rw [List.length_map, Em]; omega)) (by omega))<|?_; refine I.y rfl (Y.cast (Y.loadSl isAgg3 rfl (Rds.rowL 0 rfl) (D2 (l := (Ak c.p.N.toNat nd)) (k := i) (by rw [Em]; omega))) (congrArg (Value.int .i64) hwi)) ?_; refine I.a O O<|Od O<|Wq O<|Wq O<|W.drawn O (by kernel_rfl) (Ctx _ _ (_) (_)) [] (.op 0 0 (.op 1 0 (.op 2 1 (.op 3 0 (.op 4 0 (.op 5 0 (.op 6 0 (.op 7 0 (.op 8 0 (.op 9 0 (.op 10 0 (.op 11 0 (.op 12 0 .nil))))))))))))) O (by kernel_rfl) I.drew.ctx<|?_; replace I := I.drew; generalize World.drew _ = wd at I ⊢; refine I.zp O O<|I.zu O O<|Dw O (X.call Bsq O<|?_); refine Ab (Ad4 rb c wb n l m.u.who hok _ _ _ _ _ I.up_3) O ?_; clear I; rintro e w52 ⟨b52, rfl, hb52, I⟩; replace I := I.dn3; refine ⟨_, O, ⟨I.ctx, ?_⟩⟩; cases b52
              · replace hb52 := dF hb52; refine I.zq O O<|I.zb O O<|I.o O<|I.o O<|I.o O<|I.o O<|I.o O<|I.o O<|I.o O<|I.zk O O O<|Dd<|Wt O O<|W.exit O<|Wr O<|I.j O O O (by omega)<|I.u O O<|Od O<|?_
                first
                | exact ⟨(i + 1, lo', hi', true), ⟨O, O, O, O, trivial⟩, ⟨O, O, O, O, O, O, O, trivial⟩, ⟨⟨by dsimp only; omega, hsn.step hmm hask hlo hhi⟩, I⟩, by dsimp only; omega⟩
                | exact ⟨(i + 1, lo, hi, b10), ⟨O, O, O, O, trivial⟩, ⟨O, O, O, O, O, O, O, trivial⟩, ⟨⟨by dsimp only; omega, hsn⟩, I⟩, by dsimp only; omega⟩
              · replace hb52 := dT hb52; refine I.zq O O<|I.zb O O<|I.zu O O<|I.z O (Y.cast (Y.indexAddrA underlying67 sizeOf3 O O (by omega)) (congrArg (fun z => Value.pointer (some ⟨p6, z, none⟩)) (show 0 + (m.u.who).toNat * 1 = m.u.who.toNat by omega)))<|?_; refine I.z O (Y.load 1 isAgg3 O O (Ko (i := m.u.who.toNat) (by omega)))<|I.zf Fj O O<|I.zf Fi O O<|I.zl 2 O O O O<|Drw.yb O O O I.ctx (Y.gtr O O) (fun b61 hb61 => I.zk O O O<|Dd<|?_); cases b61
                · replace hb61 := dF hb61; refine Wu O O<|Wk O<|Wq O<|?_; have hask : Kc c nd m.u.who := At7 ha hn6 (show c.p.N.toNat ≤ 7 by have := hs.N; omega) hmw hb52 (by omega); have hhe : ¬ Bf c.p m.u.s = 0 := hbt.1 m hmm hask; refine Wr O<|I.p O O<|I.t O O<|I.f Aa4 O O<|I.y O (Y.load 3 isAgg45 O O O)<|I.u O O<|Oc O Bh8 O ?_; refine Ab (Vh m.u.who wb c.p hok nd hnd2 x _ _ _ _ _ (I.resDn [_, _, _, _]) hx i m hm O) O ?_; clear I; rintro e w69 ⟨rfl, I⟩; replace I := I.resUp [_, _, _, _]; simp only [List.cons_append, List.nil_append] at I; refine ⟨_, O, ?_⟩; refine Oc O Box O ?_; refine Ab (A08 hm c.p wb hhe _ _ _ _ _ (I.resDn [_, _, _, _])) O ?_; clear I; rintro e w70 ⟨rfl, I⟩; replace I := I.resUp [_, _, _, _]; simp only [List.cons_append, List.nil_append] at I; refine ⟨_, O, ?_⟩; refine I.y O (Y.moveU O)<|I.e O O O<|I.e O O O<|I.a O O<|I.a O O<|Od O<|Wq O<|Wh O<|I.u O O<|I.yb O (Y.neq O O) (fun b74 hb74 => Od O<|?_); cases b74
                  · replace hb74 := dF hb74; refine Wu O O<|Wk O<|Wq O<|?_; refine W.cut [(1, .int _ _), (2, .pointer _), (5, .pointer _), (6, .pointer _), (7, .int _ _), (9, .int _ _), (10, .bool _), (13, .int _ _), (44, .slice _ _ _), (45, .int _ _), (46, .int _ _)] (fun x_ : Int => [(8, .int .i64 x_)]) (fun x_ w => ((b10 = false → x_ = Bp c.p m.u.s.time) ∧ (b10 = true → x_ = min lo (Bp c.p m.u.s.time))) ∧ St w0 F0 w (Af (.slice A44 (c.p.N.toNat + nd) c44) 3 1 (c.p.N.toNat + nd) (ivs ((Ak c.p.N.toNat nd))) :: Aa p6 (ivs a) 67 :: Aa p2 (csC c) 30 :: Aa rb (Ez c wb (n) (l)) 47 :: x.res c.p wb L) G1) ⟨O, O, O, O, O, O, O, O, O, O, O, trivial⟩ ?_ ?_
                    rotate_left
                    · clear I; rintro lo' j w20 ⟨hlo, I⟩; refine Wq O ?_; refine W.cut [(1, .int _ _), (2, .pointer _), (5, .pointer _), (6, .pointer _), (7, .int _ _), (8, .int _ _), (44, .slice _ _ _), (45, .int _ _), (46, .int _ _)] (fun x_ : Int => [(9, .int .i64 x_)]) (fun x_ w => ((b10 = false → x_ = Bp c.p m.u.s.time) ∧ (b10 = true → x_ = max hi (Bp c.p m.u.s.time))) ∧ St w0 F0 w (Af (.slice A44 (c.p.N.toNat + nd) c44) 3 1 (c.p.N.toNat + nd) (ivs ((Ak c.p.N.toNat nd))) :: Aa p6 (ivs a) 67 :: Aa p2 (csC c) 30 :: Aa rb (Ez c wb (n) (l)) 47 :: x.res c.p wb L) G1) ⟨O, O, O, O, O, O, O, O, O, trivial⟩ ?_ ?_
                      rotate_left
                      · clear I; rintro hi' j w22 ⟨hhi, I⟩; refine Wr O<|I.g O O<|Od O<|Wr O<|I.j O O O (by omega)<|I.u O O<|Od O<|?_
                        first
                        | exact ⟨(i + 1, lo', hi', true), ⟨O, O, O, O, trivial⟩, ⟨O, O, O, O, O, O, O, trivial⟩, ⟨⟨by dsimp only; omega, hsn.step hmm hask hlo hhi⟩, I⟩, by dsimp only; omega⟩
                        | exact ⟨(i + 1, lo, hi, b10), ⟨O, O, O, O, trivial⟩, ⟨O, O, O, O, O, O, O, trivial⟩, ⟨⟨by dsimp only; omega, hsn⟩, I⟩, by dsimp only; omega⟩
                      refine Wh O<|I.b O O<|?_; cases b10
                      · replace hb10 := dF hb10; refine I.q O O<|I.b O O<|On O<|On O<|On O<|I.k O O O<|Od O<|Wt O O<|Wr O<|I.u O O<|I.a O O<|Od O<|?_; exact ⟨_, ⟨O, trivial⟩, ⟨O, O, O, O, O, O, O, O, O, trivial⟩, ⟨⟨fun _ => O, (fun h => by cases h)⟩, I⟩⟩
                      · replace hb10 := dT hb10; refine I.q O O<|I.b O O<|I.u O O<|I.u O O<|I.V O O O (fun b88 hb88 => I.k O O O<|Od O<|?_); cases b88
                        · replace hb88 := dF hb88; refine Wu O O<|Wk O<|?_; have h8 := hb88; dsimp only at h8; exact ⟨_, ⟨O, trivial⟩, ⟨O, O, O, O, O, O, O, O, O, trivial⟩, ⟨⟨(fun h => by cases h), fun _ => by (try dsimp only); omega⟩, I⟩⟩
                        · replace hb88 := dT hb88; refine Wt O O<|Wr O<|I.u O O<|I.a O O<|Od O<|?_; have h8 := hb88; dsimp only at h8; exact ⟨_, ⟨O, trivial⟩, ⟨O, O, O, O, O, O, O, O, O, trivial⟩, ⟨⟨(fun h => by cases h), fun _ => by (try dsimp only); omega⟩, I⟩⟩
                    refine Wh O<|I.b O O<|?_; cases b10
                    · replace hb10 := dF hb10; refine I.q O O<|I.b O O<|On O<|On O<|On O<|I.k O O O<|Od O<|Wt O O<|Wr O<|I.u O O<|I.a O O<|Od O<|?_; exact ⟨_, ⟨O, trivial⟩, ⟨O, O, O, O, O, O, O, O, O, O, O, trivial⟩, ⟨⟨fun _ => O, (fun h => by cases h)⟩, I⟩⟩
                    · replace hb10 := dT hb10; refine I.q O O<|I.b O O<|I.u O O<|I.u O O<|I.v O O O (fun b80 hb80 => I.k O O O<|Od O<|?_); cases b80
                      · replace hb80 := dF hb80; refine Wu O O<|Wk O<|?_; have h8 := hb80; dsimp only at h8; exact ⟨_, ⟨O, trivial⟩, ⟨O, O, O, O, O, O, O, O, O, O, O, trivial⟩, ⟨⟨(fun h => by cases h), fun _ => by (try dsimp only); omega⟩, I⟩⟩
                      · replace hb80 := dT hb80; refine Wt O O<|Wr O<|I.u O O<|I.a O O<|Od O<|?_; have h8 := hb80; dsimp only at h8; exact ⟨_, ⟨O, trivial⟩, ⟨O, O, O, O, O, O, O, O, O, O, O, trivial⟩, ⟨⟨(fun h => by cases h), fun _ => by (try dsimp only); omega⟩, I⟩⟩
                  · replace hb74 := dT hb74; exact absurd O hb74
                · replace hb61 := dT hb61; refine Wt O O<|W.exit O<|Wr O<|I.j O O O (by omega)<|I.u O O<|Od O<|?_
                  first
                  | exact ⟨(i + 1, lo', hi', true), ⟨O, O, O, O, trivial⟩, ⟨O, O, O, O, O, O, O, trivial⟩, ⟨⟨by dsimp only; omega, hsn.step hmm hask hlo hhi⟩, I⟩, by dsimp only; omega⟩
                  | exact ⟨(i + 1, lo, hi, b10), ⟨O, O, O, O, trivial⟩, ⟨O, O, O, O, O, O, O, trivial⟩, ⟨⟨by dsimp only; omega, hsn⟩, I⟩, by dsimp only; omega⟩
    · replace hb30 := dT hb30; refine Wt O O<|Wh O<|I.g O O<|Od O<|We O<|⟨_, Ac.one results5 O, ?_⟩
      first
      | exact ⟨O, G, fun _ h => h, (I.dr 1)⟩
      | exact ⟨O, G1, hG1, (I.dr 1).sub (P1 _ _ _ _)⟩
  · replace hb19 := dT hb19; refine I.o O<|I.o O<|I.o O<|I.o O<|I.o O<|I.o O<|I.o O<|I.o O<|Drw.noX O O O I.ctx<|I.o O<|I.zk O O O<|Dd<|Wt O O<|Wh O<|I.g O O<|Od O<|We O<|⟨_, Ac.one results5 O, ?_⟩
    first
    | exact ⟨O, G, fun _ h => h, (I.dr 1)⟩
    | exact ⟨O, G1, hG1, (I.dr 1).sub (P1 _ _ _ _)⟩
end
section
open Tryz Go.RowKit YtaanjifekgfemaaGreat.K YtaanjifekgfemaaGreat.W
theorem Yz (l : List Int) : (srt l).Perm l := List.mergeSort_perm ..
theorem Sh (l : List Int) : (srt l).Pairwise fun x y => x ≤ y := by
  have h := List.pairwise_mergeSort (le := fun x y : Int => decide (x ≤ y)) (fun a b c h1 h2 => by simp only [decide_eq_true_eq] at *; omega) (fun a b => by simp only [Bool.or_eq_true, decide_eq_true_eq]; omega) l; exact h.imp fun h => by simpa using h
theorem Abq {l : List Int} {k : Nat} {a : Int} (hk : k < l.length) (h : k + 1 ≤ l.countP (fun x => decide (x ≤ a))) : (srt l).getD k 0 ≤ a := by
  have hs := Sh l; have hl : (srt l).length = l.length := Mg l; rw [← (Yz l).countP_eq] at h; generalize srt l = s at hs hl h; refine Classical.byContradiction fun hc => ?_; have hks : k < s.length := by omega
  have e : s.getD k 0 = s[k] := by simp [hks]
  rw [e] at hc; rw [← List.take_append_drop k s, List.countP_append] at h; have h1 : (s.take k).countP (fun x => decide (x ≤ a)) ≤ k := Nat.le_trans List.countP_le_length (by rw [List.length_take]; omega)
  have h2 : (s.drop k).countP (fun x => decide (x ≤ a)) = 0 := by
    rw [List.countP_eq_zero]; intro x hx; obtain ⟨j, hj, rfl⟩ := List.getElem_of_mem hx; rw [List.getElem_drop]; rw [List.length_drop] at hj; rw [List.pairwise_iff_getElem] at hs
    by_cases hj0 : j = 0
    · subst hj0; simpa using hc
    · have := hs k (k + j) hks (by omega) (by omega); simp only [decide_eq_true_eq]; omega
  omega
theorem Ab9 {l : List Int} {k : Nat} {a : Int} (hk : k < l.length) (h : l.countP (fun x => decide (x < a)) ≤ k) : a ≤ (srt l).getD k 0 := by
  have hs := Sh l; have hl : (srt l).length = l.length := Mg l; rw [← (Yz l).countP_eq] at h; generalize srt l = s at hs hl h; refine Classical.byContradiction fun hc => ?_; have hks : k < s.length := by omega
  have e : s.getD k 0 = s[k] := by simp [hks]
  rw [e] at hc; rw [← List.take_append_drop (k + 1) s, List.countP_append] at h
  have h1 : (s.take (k + 1)).countP (fun x => decide (x < a)) = (s.take (k + 1)).length := by
    rw [List.countP_eq_length]; intro x hx; obtain ⟨j, hj, rfl⟩ := List.getElem_of_mem hx; rw [List.getElem_take]; rw [List.length_take] at hj; rw [List.pairwise_iff_getElem] at hs; simp only [decide_eq_true_eq]
    by_cases hjk : j = k
    · subst hjk; omega
    · have := hs j k (by omega) hks (by omega); omega
  rw [List.length_take] at h1; omega
def Bg (s : Sp) (t g : Int) : Prop := (t - g ≤ s.lo ∧ s.lo ≤ t) ∧ t ≤ s.hi ∧ s.hi ≤ t + g
instance (s : Sp) (t g : Int) : Decidable (Bg s t g) := by unfold Bg; infer_instance
theorem H2 {α : Type} {l : List α} {p q : α → Bool} (h : ∀ x ∈ l, p x = true → q x = true) : l.countP p ≤ l.countP q := List.countP_mono_left h
theorem Am7 {F : Int} {l : List Sp} {t g : Int} (hF : 0 ≤ F) (hn : 2 * F + 1 ≤ (l.length : Int)) (hbad : (l.countP (fun s => !decide (Bg s t g)) : Int) ≤ F) (hg : 0 ≤ g) (ht : -1152921504606846976 ≤ t - g ∧ t + g ≤ 1152921504606846976) :
    E6 F l ∧ Bg (Dk F l) t g := by
  obtain ⟨f, rfl⟩ : ∃ f : Nat, F = (f : Int) := ⟨F.toNat, by omega⟩; have hll : (Dl l).length = l.length := by simp [Dl]
  have hlh : (D0 l).length = l.length := by simp [D0]
  have hm : I0 (f : Int) l.length := by unfold I0; omega
  have hgood : l.length ≤ l.countP (fun s => decide (Bg s t g)) + f := by
    have := List.length_eq_countP_add_countP (fun s => decide (Bg s t g)) (l := l)
    have e : l.countP (fun s => !decide (Bg s t g)) = l.countP (fun a => decide (¬ (decide (Bg a t g) = true))) := by
      congr 1
      funext a
      cases decide (Bg a t g) <;> rfl
    omega
  have hok1 : Bt (f : Int) (Dl l) := by unfold Bt; omega
  have hok2 : Bt (f : Int) (D0 l) := by unfold Bt; omega
  have hok3 : Bt ((Dl l).length - 1 - (f : Int)) (Dl l) := by unfold Bt; omega
  have elo : Ku (f : Int) (Dl l) = (srt (Dl l)).getD (l.length - 1 - f) 0 := by
    unfold Ku Di; rw [if_pos hok1, if_pos hok3, hll]
    congr 1
    omega
  have ehi : Di (f : Int) (D0 l) = (srt (D0 l)).getD f 0 := by
    unfold Di; rw [if_pos hok2]; rfl
  have cl : ∀ (p : Int → Bool), (Dl l).countP p = l.countP (fun s => p s.lo) := fun p => by unfold Dl; rw [List.countP_map]; rfl
  have ch : ∀ (p : Int → Bool), (D0 l).countP p = l.countP (fun s => p s.hi) := fun p => by unfold D0; rw [List.countP_map]; rfl
  have m1 : l.countP (fun s => decide (Bg s t g)) ≤ (Dl l).countP (fun x => decide (x ≤ t)) := by
    rw [cl]; exact H2 fun s _ h => by simp only [decide_eq_true_eq] at *; exact h.1.2
  have m3 : l.countP (fun s => decide (Bg s t g)) ≤ (D0 l).countP (fun x => decide (x ≤ t + g)) := by
    rw [ch]; exact H2 fun s _ h => by simp only [decide_eq_true_eq] at *; exact h.2.2
  have m2 : (Dl l).countP (fun x => decide (x < t - g)) ≤ l.countP (fun s => !decide (Bg s t g)) := by
    rw [cl]; exact H2 fun s _ h => by
      simp only [decide_eq_true_eq, Bool.not_eq_true', decide_eq_false_iff_not] at *; unfold Bg; omega
  have m4 : (D0 l).countP (fun x => decide (x < t)) ≤ l.countP (fun s => !decide (Bg s t g)) := by
    rw [ch]; exact H2 fun s _ h => by
      simp only [decide_eq_true_eq, Bool.not_eq_true', decide_eq_false_iff_not] at *; unfold Bg; omega
  have a1 : Ku (f : Int) (Dl l) ≤ t := by rw [elo]; exact Abq (by omega) (by omega)
  have a2 : t - g ≤ Ku (f : Int) (Dl l) := by rw [elo]; exact Ab9 (by omega) (by omega)
  have a3 : Di (f : Int) (D0 l) ≤ t + g := by rw [ehi]; exact Abq (by omega) (by omega)
  have a4 : t ≤ Di (f : Int) (D0 l) := by rw [ehi]; exact Ab9 (by omega) (by omega)
  have hf : E6 (f : Int) l := ⟨hm, by omega⟩; refine ⟨hf, ?_⟩; unfold Dk; rw [if_pos hf]; unfold Sp.of Bg; dsimp only; rw [Ap (by omega), Ap (by omega)]; omega
theorem I2 {a b : Int} (ha : 0 ≤ a ∧ a ≤ 2305843009213693952) (hb : 0 ≤ b ∧ b ≤ 2305843009213693952) (h : a * b ≤ 2305843009213693952) : mul a b = a * b := by
  have hc : ¬ ((a < 0 ∧ ¬ b < 0) ∨ (¬ a < 0 ∧ b < 0)) := by omega
  have ea : mag a = a := by unfold mag; rw [if_neg (by omega), Ap (by omega)]
  have eb : mag b = b := by unfold mag; rw [if_neg (by omega), Ap (by omega)]
  unfold mul; rw [if_neg hc, ea, eb]; unfold C4; rw [if_pos]
  by_cases h0 : a = 0
  · exact .inl h0
  · refine .inr ?_; rw [Int.le_ediv_iff_mul_le (by omega), Int.mul_comm]; exact h
theorem Tc {a b : Int} (ha : 0 ≤ a) (hb : 0 ≤ b) (h : a + b ≤ 2305843009213693952) : Bb [a, b] = a + b := by
  show Aj (Aj (0 + Aj a) + Aj b) = a + b; rw [Ap (x := a) (by omega), Int.zero_add, Ap (x := a) (by omega), Ap (x := b) (by omega), Ap (by omega)]
theorem Be9 {a b d : Int} (ha : 0 ≤ a) (hb : 0 ≤ b) (hd : 0 ≤ d) (h : a + b + d ≤ 2305843009213693952) : Bb [a, b, d] = a + b + d := by
  show Aj (Aj (Aj (0 + Aj a) + Aj b) + Aj d) = a + b + d; rw [Ap (x := a) (by omega), Int.zero_add, Ap (x := a) (by omega), Ap (x := b) (by omega), Ap (x := a + b) (by omega), Ap (x := d) (by omega), Ap (by omega)]
def Gj (p : Par) : Int := p.Jitter + 2 * p.Rho
def gN (p : Par) : Int := 2 * p.Eps + Gj p
def rN (p : Par) (h : Int) : Int := gN p + (h + 1) * Gj p
theorem Ax1 {p : Par} (hp : p.Ok) : hop p = Gj p := by
  have := hp.Beat; have := hp.Rho; have := hp.Jitter; have := hp.Delay; unfold hop Gj; rw [I2 (by decide) (by omega) (by omega), Tc (by omega) (by omega) (by omega)]
theorem E1 {p : Par} (hp : p.Ok) : 0 ≤ Gj p ∧ Gj p ≤ 1099511627776 := by
  have := hp.Beat; have := hp.Rho; have := hp.Jitter; have := hp.Delay; unfold Gj; omega
theorem Lq {p : Par} (hp : p.Ok) : 0 ≤ gN p ∧ gN p ≤ 3298534883328 := by
  have := hp.Eps; have := E1 hp; unfold gN; omega
theorem Aw9 {p : Par} (hp : p.Ok) : M6 p = 2 * gN p := by
  have h1 := hp.Eps; have h2 := E1 hp; have h3 := Lq hp; unfold M6; rw [Ax1 hp, I2 (a := 2) (b := p.Eps) (by decide) (by omega) (by omega), Tc (by omega) (by omega) (by omega)]; exact I2 (by decide) (by unfold gN at h3; omega) (by unfold gN at h3; omega)
theorem Ss {p : Par} (hp : p.Ok) {h k : Int} (hh : 0 ≤ h ∧ h ≤ 1048576) (hk : 0 ≤ k ∧ k ≤ 17) : C5 p h k = 2 * gN p + 2 * p.Rho * h + (k + 1) * Gj p ∧ 2 * p.Rho * h ≤ 288230376151711744 := by
  have h1 := hp.Rho; have h2 := hp.Beat; have h3 := E1 hp; have h4 := Lq hp; have e1 : 2 * p.Rho * h ≤ 274877906944 * 1048576 := Int.mul_le_mul (by omega) hh.2 hh.1 (by decide); have e2 : (k + 1) * Gj p ≤ 18 * 1099511627776 := Int.mul_le_mul (by omega) h3.2 h3.1 (by decide); have e3 : 0 ≤ 2 * p.Rho * h := Int.mul_nonneg (by omega) hh.1; have e4 : 0 ≤ (k + 1) * Gj p := Int.mul_nonneg (by omega) h3.1; refine ⟨?_, by omega⟩; unfold C5; rw [Aw9 hp, Ax1 hp, I2 (a := 2) (b := p.Rho) (by decide) (by omega) (by omega), I2 (a := 2 * p.Rho) (b := h) (by omega) (by omega) (by omega), Tc (a := k) (b := 1) (by omega) (by decide) (by omega), I2 (a := k + 1) (b := Gj p) (by omega) (by omega) (by omega)]; exact Be9 (by omega) e3 e4 (by omega)
theorem Uc {p : Par} (hp : p.Ok) (hs : settle p ≤ 80) : ∃ q : Int, 0 ≤ q ∧ settle p = 2 * p.D + 6 + q ∧ 3 * C5 p p.Hold p.D ≤ q * (p.Mu - p.Rho) ∧ q ≤ 74 := by
  have h1 := hp.Rho; have h2 := hp.Beat; have h3 := hp.Mu; have h4 := hp.Hold; have h5 := hp.D; obtain ⟨e1, e2⟩ := Ss hp (h := p.Hold) (k := p.D) (by omega) (by omega); have h6 := E1 hp; have h7 := Lq hp; have e3 : (p.D + 1) * Gj p ≤ 18 * 1099511627776 := Int.mul_le_mul (by omega) h6.2 h6.1 (by decide); have e4 : 0 ≤ 2 * p.Rho * p.Hold := Int.mul_nonneg (by omega) (by omega); have e5 : 0 ≤ (p.D + 1) * Gj p := Int.mul_nonneg (by omega) h6.1; have es : sub p.Mu p.Rho = p.Mu - p.Rho := Mj (by omega) (by omega); have em : mul 3 (C5 p p.Hold p.D) = 3 * C5 p p.Hold p.D := I2 (by decide) (by omega) (by omega); unfold settle at hs ⊢; rw [es, em] at hs ⊢; rw [I2 (a := 2) (b := p.D) (by decide) (by omega) (by omega)] at hs ⊢; generalize hw : C5 p p.Hold p.D = w at *; generalize hq : (3 * w + (p.Mu - p.Rho) - 1) / (p.Mu - p.Rho) = q at *; have hq0 : 0 ≤ q := by rw [← hq]; exact Int.ediv_nonneg (by omega) (by omega)
  have hq1 : 3 * w ≤ q * (p.Mu - p.Rho) := by
    have h8 := Int.lt_ediv_add_one_mul_self (3 * w + (p.Mu - p.Rho) - 1) (show 0 < p.Mu - p.Rho by omega); rw [hq, Int.add_mul] at h8; omega
  have hq2 : q ≤ 1500000000000000000 := by
    have h9 : q * 1 ≤ q * (p.Mu - p.Rho) := Int.mul_le_mul_of_nonneg_left (by omega) hq0; have h10 : q * (p.Mu - p.Rho) ≤ 3 * w + (p.Mu - p.Rho) - 1 := by rw [← hq]; exact Int.ediv_mul_le _ (by omega)
    omega
  rw [Be9 (by omega) (by decide) hq0 (by omega)] at hs ⊢; exact ⟨q, hq0, by omega, hq1, by omega⟩
theorem Hf {α β : Type} (P : β → Prop) (f : β → α → β) (l : List α) (b : β) (h0 : P b) (h : ∀ b x, x ∈ l → P b → P (f b x)) : P (l.foldl f b) := by
  induction l generalizing b with
  | nil => exact h0
  | cons x l ih => exact ih _ (h b x (.head _) h0) fun b y hy hb => h b y (.tail _ hy) hb
structure Fair (p : Par) (time : Int) (s : Stp) : Prop where
  ticks : ∀ t ∈ s.ticks, p.Beat - p.Rho ≤ t.2 ∧ t.2 ≤ p.Beat + p.Rho
  ages : ∀ a ∈ s.ages, p.Beat - p.Delay - p.Rho ≤ a.ticks ∧ a.ticks ≤ p.Beat - p.Delay + p.Jitter + p.Rho
  reads : ∀ r ∈ s.reads, r.is = true ∧ r.given = false ∧ r.gate < p.N - p.F ∧ time + p.Beat - p.Eps ≤ r.reading ∧ r.reading ≤ time + p.Beat + p.Eps
  all : ∀ i : Nat, (i : Int) < p.N - p.F → ∃ r ∈ s.reads, r.gate = (i : Int)
  lies : ∀ x ∈ s.lies, p.N - p.F ≤ x.from_
  plain : s.off = [] ∧ s.lost = [] ∧ s.cut = [] ∧ s.join = []
theorem A69 {c : Cs} (hok : c.p.Ok) (us : List Int) (who : Int) (s : Nat × List Ag) (j : Nat) (h : ∀ a ∈ s.2, c.p.Beat - c.p.Delay - c.p.Rho ≤ a.ticks ∧ a.ticks ≤ c.p.Beat - c.p.Delay + c.p.Jitter + c.p.Rho) :
    ∀ a ∈ (AGf c us who s j).2, c.p.Beat - c.p.Delay - c.p.Rho ≤ a.ticks ∧ a.ticks ≤ c.p.Beat - c.p.Delay + c.p.Jitter + c.p.Rho := by
  unfold AGf; refine Hf (fun z : Nat × List Ag => ∀ a ∈ z.2, c.p.Beat - c.p.Delay - c.p.Rho ≤ a.ticks ∧ a.ticks ≤ c.p.Beat - c.p.Delay + c.p.Jitter + c.p.Rho) _ _ _ h fun b x _ hb a ha => ?_; unfold A6q at ha; rcases List.mem_append.1 ha with ha | ha
  · exact hb a ha
  · rw [List.mem_singleton] at ha; subst ha; have := hok.Rho; have := hok.Jitter; have hz := Jj c b.1 (lo := -c.p.Rho) (hi := c.p.Jitter + c.p.Rho) (by omega); show _ ≤ At4 c b.1 ∧ At4 c b.1 ≤ _; unfold At4; omega
theorem Be2 {c : Cs} (hok : c.p.Ok) (us : List Int) (n k : Nat) : (∀ t ∈ (TKf c us n k).2.1, c.p.Beat - c.p.Rho ≤ t.2 ∧ t.2 ≤ c.p.Beat + c.p.Rho) ∧ ∀ a ∈ (TKf c us n k).2.2, c.p.Beat - c.p.Delay - c.p.Rho ≤ a.ticks ∧ a.ticks ≤ c.p.Beat - c.p.Delay + c.p.Jitter + c.p.Rho := by
  unfold TKf; refine Hf (fun z : Nat × List (Int × Int) × List Ag => (∀ t ∈ z.2.1, c.p.Beat - c.p.Rho ≤ t.2 ∧ t.2 ≤ c.p.Beat + c.p.Rho) ∧ ∀ a ∈ z.2.2, c.p.Beat - c.p.Delay - c.p.Rho ≤ a.ticks ∧ a.ticks ≤ c.p.Beat - c.p.Delay + c.p.Jitter + c.p.Rho) _ _ _ ⟨(fun t h => by cases h), (fun a h => by cases h)⟩ fun b x _ hb => ⟨fun t ht => ?_, ?_⟩
  · unfold Y2 at ht; rcases List.mem_append.1 ht with ht | ht
    · exact hb.1 t ht
    · rw [List.mem_singleton] at ht; subst ht; have := hok.Rho; have hz := Jj c b.1 (lo := -c.p.Rho) (hi := c.p.Rho) (by omega); show _ ≤ L0 c b.1 ∧ L0 c b.1 ≤ _; unfold L0; omega
  · unfold Y2; exact A69 hok us x _ _ hb.2
theorem Bd3 {c : Cs} (hok : c.p.Ok) (us : List Int) (time : Int) (n l k : Nat) :
    (∀ r ∈ (RLf c us time n l k).1.2, r.is = true ∧ r.given = false ∧ r.gate < c.p.N - c.p.F ∧ time + c.p.Beat - c.p.Eps ≤ r.reading ∧ r.reading ≤ time + c.p.Beat + c.p.Eps) ∧
    (∀ i : Nat, i < k → (i : Int) < c.p.N - c.p.F → ∃ r ∈ (RLf c us time n l k).1.2, r.gate = (i : Int)) ∧ ∀ x ∈ (RLf c us time n l k).2.2, c.p.N - c.p.F ≤ x.from_ := by
  induction k with
  | zero => exact ⟨(fun r h => by cases h), (fun i h => absurd h (Nat.not_lt_zero _)), (fun r h => by cases h)⟩
  | succ k ih =>
    obtain ⟨h1, h2, h3⟩ := ih; rw [Ke]; unfold rlS; split
    · rename_i hk; refine ⟨?_, ?_, h3⟩
      · intro r hr; unfold Yn at hr; rcases List.mem_append.1 hr with hr | hr
        · exact h1 r hr
        · rw [List.mem_singleton] at hr; subst hr; have := hok.Eps; have hz := Jj c (RLf c us time n l k).1.1 (lo := -c.p.Eps) (hi := c.p.Eps) (by omega); refine ⟨rfl, rfl, hk, ?_⟩; show _ ≤ T5 c time (RLf c us time n l k).1.1 ∧ T5 c time (RLf c us time n l k).1.1 ≤ _; unfold T5; omega
      · intro i hi hiN; unfold Yn; rcases (show i < k ∨ i = k by omega) with hi | rfl
        · obtain ⟨r, hr, e⟩ := h2 i hi hiN; exact ⟨r, List.mem_append.2 (.inl hr), e⟩
        · exact ⟨_, List.mem_append.2 (.inr (.head _)), rfl⟩
    · rename_i hk; refine ⟨h1, ?_, ?_⟩
      · intro i hi hiN; rcases (show i < k ∨ i = k by omega) with hi | rfl
        · exact h2 i hi hiN
        · exact absurd hiN hk
      · unfold LIf; refine Hf (fun z : Nat × List Li => ∀ x ∈ z.2, c.p.N - c.p.F ≤ x.from_) _ _ _ h3 fun b y _ hb x hx => ?_; unfold Ao5 at hx; split at hx
        · exact hb x hx
        · rcases List.mem_append.1 hx with hx | hx
          · exact hb x hx
          · rw [List.mem_singleton] at hx; subst hx; show _ ≤ (k : Int); omega
theorem StpOf.fair {c : Cs} (hok : c.p.Ok) {us : List Int} {time : Int} {n l : Nat} {s : Stp} (h : StpOf c us time n l s) : Fair c.p time s := by
  obtain ⟨h1, h2⟩ := Be2 hok us n us.length
  obtain ⟨h3, h4, h5⟩ := Bd3 hok us time (TKf c us n us.length).1 l c.p.N.toNat
  refine ⟨by rw [h.ticks]; exact h1, by rw [h.ages]; exact h2, by rw [h.reads]; exact h3, ?_, by rw [h.lies]; exact h5, h.off, h.lost, h.cut, h.join⟩; intro i hi; rw [h.reads]; have := hok.F; exact h4 i (by omega) hi
theorem Fair.tick {p : Par} (hp : p.Ok) {t : Int} {s : Stp} (h : Fair p t s) (who : Int) : p.Beat - p.Rho ≤ Eg p who s.ticks ∧ Eg p who s.ticks ≤ p.Beat + p.Rho := by
  unfold Eg; refine Hf (fun z : Int => p.Beat - p.Rho ≤ z ∧ z ≤ p.Beat + p.Rho) _ _ _ (by have := hp.Rho; omega) fun b x hx hb => ?_; split
  · exact h.ticks x hx
  · exact hb
theorem Fair.age {p : Par} (hp : p.Ok) {t : Int} {s : Stp} (h : Fair p t s) (who : Int) (f : Nat) : p.Beat - p.Delay - p.Rho ≤ Bi p who s.ages f ∧ Bi p who s.ages f ≤ p.Beat - p.Delay + p.Jitter + p.Rho := by
  unfold Bi; refine Hf (fun z : Int => p.Beat - p.Delay - p.Rho ≤ z ∧ z ≤ p.Beat - p.Delay + p.Jitter + p.Rho) _ _ _ ?_ fun b x hx hb => ?_
  · have := hp.Rho; have := hp.Jitter; have := hp.Beat; have := hp.Delay; rw [Mj (by omega) (by omega)]; omega
  · split
    · exact h.ages x hx
    · exact hb
theorem Fair.read {p : Par} {t : Int} {s : Stp} (h : Fair p t s) (who : Int) (ticks : List (Int × Int)) :
    (Dm p who ticks s.reads).given = false ∧ ((Dm p who ticks s.reads).ref = true → who < p.N - p.F ∧ t + p.Beat - p.Eps ≤ (Dm p who ticks s.reads).reading ∧ (Dm p who ticks s.reads).reading ≤ t + p.Beat + p.Eps) ∧ (∀ r ∈ s.reads, r.gate = who → (Dm p who ticks s.reads).ref = true) := by
  have key : ∀ (l : List Rd), (∀ r ∈ l, r ∈ s.reads) → ∀ i : Inp, i.given = false → (i.ref = true → who < p.N - p.F ∧ t + p.Beat - p.Eps ≤ i.reading ∧ i.reading ≤ t + p.Beat + p.Eps) →
      (l.foldl (B7 who) i).given = false ∧ ((l.foldl (B7 who) i).ref = true → who < p.N - p.F ∧ t + p.Beat - p.Eps ≤ (l.foldl (B7 who) i).reading ∧ (l.foldl (B7 who) i).reading ≤ t + p.Beat + p.Eps) ∧ ((i.ref = true ∨ ∃ r ∈ l, r.gate = who) → (l.foldl (B7 who) i).ref = true) := by
    intro l
    induction l with
    | nil => intro _ i h1 h2; exact ⟨h1, h2, fun h => h.elim id fun ⟨r, hr, _⟩ => by cases hr⟩
    | cons r l ih =>
      intro hl i h1 h2; have hr := h.reads r (hl r (.head _))
      have e : B7 who i r = rs1 who i r := by
        unfold B7 rs2; rw [if_neg]; rw [hr.2.1]; exact fun hx => by cases hx.2
      rw [List.foldl_cons, e]
      have hstep : (rs1 who i r).given = false ∧ ((rs1 who i r).ref = true → who < p.N - p.F ∧ t + p.Beat - p.Eps ≤ (rs1 who i r).reading ∧ (rs1 who i r).reading ≤ t + p.Beat + p.Eps) ∧ ((i.ref = true ∨ r.gate = who) → (rs1 who i r).ref = true) := by
        unfold rs1; split
        · rename_i hc; refine ⟨h1, fun _ => ⟨by rw [← hc.1]; exact hr.2.2.1, hr.2.2.2⟩, fun _ => O⟩
        · rename_i hc; exact ⟨h1, h2, fun hx => hx.elim id fun hx => absurd ⟨hx, hr.1⟩ hc⟩
      obtain ⟨a, b, d⟩ := ih (fun x hx => hl x (.tail _ hx)) _ hstep.1 hstep.2.1; refine ⟨a, b, fun hx => d ?_⟩; rcases hx with hx | ⟨r', hr', e'⟩
      · exact .inl (hstep.2.2 (.inl hx))
      · rcases List.mem_cons.1 hr' with rfl | hr'
        · exact .inl (hstep.2.2 (.inr e'))
        · exact .inr ⟨r', hr', e'⟩
  obtain ⟨a, b, d⟩ := key s.reads (fun r hr => hr) (S5 (Eg p who ticks)) rfl (fun hx => by cases hx); exact ⟨a, b, fun r hr e => d (.inr ⟨r, hr, e⟩)⟩
theorem Fair.hon {p : Par} {t : Int} {s : Stp} (h : Fair p t s) {f : Int} (hf : 16 ≤ f ∨ f < p.N - p.F) : Hon s f := by
  rcases hf with hf | hf
  · exact .inl hf
  · exact .inr fun x hx e => by have := h.lies x hx; omega
theorem RunT.time {c : Cs} {nd b : Nat} {x : Wd} {n l : Nat} (h : RunT c nd b x n l) (hok : c.p.Ok) (ht : -1125899906842624 ≤ c.time ∧ c.time ≤ 1125899906842624) (hb : b ≤ 200) : x.time = c.time + b * c.p.Beat ∧ (0 : Int) ≤ b * c.p.Beat ∧ (b : Int) * c.p.Beat ≤ 219902325555200 := by
  have hB := hok.Beat
  have hbb : ∀ k : Nat, k ≤ 200 → (0 : Int) ≤ k * c.p.Beat ∧ (k : Int) * c.p.Beat ≤ 200 * 1099511627776 := fun k hk => ⟨Int.mul_nonneg (by omega) (by omega), Int.mul_le_mul (by omega) hB.2 (by omega) (by decide)⟩; refine ⟨?_, (hbb b hb).1, by have := (hbb b hb).2; omega⟩
  induction h with
  | start x G _ h _ => rw [h, Ap (by omega)]; simp
  | @step b x x' n l stp G G' h _ _ _ hs ih =>
    have h1 := ih (by omega); have h2 := hbb b (by omega); have h3 : ((b + 1 : Nat) : Int) * c.p.Beat = b * c.p.Beat + c.p.Beat := by push_cast; rw [Int.add_mul]; omega
    rw [hs.time, h1, Fe (by omega) (by omega)]; omega
end
section
open Tryz Go.RowKit YtaanjifekgfemaaGreat.K YtaanjifekgfemaaGreat.W YtaanjifekgfemaaGreat.LN YtaanjifekgfemaaGreat.CM
def A68 (qs : Qs) : Prop := ∀ f, f < 48 → (qs.getD f []).length ≤ 1
theorem Ap9 (who w : Int) (fr : ByteArray) (s : Stp) (links : List (Int × Int)) : (O9 who w fr s links).length ≤ 1 := by unfold O9; split <;> simp
theorem Beats.thin {p : Par} {s : Stp} {ws : List Int} {links : List (Int × Int)} {us us' : List PU} {sd : List M} (h : Beats p s ws links us us' sd) (hws : us.map (fun u => u.who) = ws) {k : Nat} {u' : PU} (hk : us'[k]? = some u') : A68 u'.qs := by
  intro f hf; have hl := h.lane k u' hk f hf
  by_cases hw : (f : Int) ∈ ws
  · obtain ⟨j, hj⟩ := List.getElem?_of_mem hw; have hj2 := hj; rw [← hws, List.getElem?_map] at hj2; obtain ⟨u, hu, e⟩ := Option.map_eq_some_iff.1 hj2; obtain ⟨_, m, _, h2, _⟩ := h.one j u hu; rw [hl.2 j m hj h2]; exact Ap9 _ _ _ _ _
  · rw [hl.1 hw]; exact Nat.zero_le _
theorem M8 {qs : Qs} (h : A68 qs) (age : Nat → Int) (k : Nat) (hk : k ≤ 48) : (Br qs age k).Pairwise fun a b => a.1.from_ ≠ b.1.from_ := by
  induction k with
  | zero => exact .nil
  | succ k ih =>
    rw [Ib, List.pairwise_append]; refine ⟨ih (by omega), ?_, fun a ha b hb => ?_⟩
    · have h1 := R9 k (age k) (qs.getD k []); have h2 := h k (by omega); generalize Ex k (age k) (qs.getD k []) = l at h1
      match l, h1 with
      | [], _ => exact .nil
      | [a], _ => exact List.pairwise_singleton _ _
      | _ :: _ :: _, h => simp only [List.length_cons] at h; omega
    · obtain ⟨f, hf, ha⟩ := L7 ha; rw [(Ey ha).1, (Ey hb).1]; omega
def tkM (p : Par) (me : Int) (y : M × Int) : Prop := y.1.kind = 1 ∧ 0 ≤ y.1.from_ ∧ y.1.from_ < min p.N 16 ∧ y.1.from_ ≠ me
instance (p : Par) (me : Int) (y : M × Int) : Decidable (tkM p me y) := by unfold tkM; infer_instance
theorem Pd {p : Par} {me : Int} {l : List Hd} (h : l.Pairwise fun a b => a.m.from_ ≠ b.m.from_) : Al p me l = l.filter fun h => decide (tkM p me (ma h)) := by
  have key : ∀ (l pre : List Hd), (pre ++ l).Pairwise (fun a b => a.m.from_ ≠ b.m.from_) → ∀ out : List Hd, out.Sublist pre → l.foldl (Gv p me) out = out ++ l.filter fun h => decide (tkM p me (ma h)) := by
    intro l
    induction l with
    | nil => intro pre _ out _; simp
    | cons x l ih =>
      intro pre hp out ho; have hp2 : ((pre ++ [x]) ++ l).Pairwise (fun a b => a.m.from_ ≠ b.m.from_) := by simpa using hp
      have hx : ¬ ∃ y ∈ out, decide (y.m.from_ = x.m.from_) = true := by
        rintro ⟨y, hy, e⟩; have hy2 := ho.subset hy; rw [List.pairwise_append] at hp; exact hp.2.2 y hy2 x (.head _) (of_decide_eq_true e)
      rw [List.foldl_cons]
      by_cases ht : tkM p me (ma x)
      · have e1 : Gv p me out x = out ++ [x] := if_pos ⟨ht.1, ht.2.1, ht.2.2.1, ht.2.2.2, hx⟩; rw [e1, ih (pre ++ [x]) hp2 _ (List.Sublist.append ho (.refl _)), List.filter_cons, if_pos (decide_eq_true ht), List.append_assoc]; rfl
      · have e1 : Gv p me out x = out := if_neg fun h => ht ⟨h.1, h.2.1, h.2.2.1, h.2.2.2.1⟩; rw [e1, ih (pre ++ [x]) hp2 _ (ho.trans (List.sublist_append_left _ _)), List.filter_cons, if_neg (by simpa using ht)]
  exact key l [] (by simpa using h) [] (.refl _)
def Bl9 (p : Par) (y : M × Int) : Sp := way p ⟨y.1.elo, y.1.ehi⟩ y.2
def Blq (p : Par) (y : M × Int) : Sp := way p ⟨y.1.slo, y.1.shi⟩ y.2
def Km (y : M × Int) : Prop := y.1.good = true ∧ ¬ y.1.shi < y.1.slo
instance (y : M × Int) : Decidable (Km y) := by unfold Km; infer_instance
def Awq (p : Par) (me : Int) (l : List (M × Int)) : List (M × Int) := l.filter fun y => decide (tkM p me y ∧ y.1.ref = true)
def M1 (p : Par) (l : List (M × Int)) : List (M × Int) := l.filter fun y => decide (tkM p (-1) y ∧ Km y)
theorem Ar4 (p : Par) (acc : List Sp) (l : List Hd) : Dy p acc l = acc ++ (l.filter fun h => decide (h.m.ref = true)).map (Pe p) := by
  unfold Dy
  induction l generalizing acc with
  | nil => simp
  | cons x l ih =>
    rw [List.foldl_cons, ih]
    by_cases h : x.m.ref = true
    · rw [if_pos h, List.filter_cons, if_pos (decide_eq_true h), List.append_assoc]; rfl
    · rw [if_neg h, List.filter_cons, if_neg (by simpa using h)]
theorem I1 {β : Type} (q : M × Int → Bool) (g : M × Int → β) (l : List Hd) : (l.filter fun h => q (ma h)).map (fun h => g (ma h)) = ((l.map ma).filter q).map g := by
  rw [List.filter_map, List.map_map]; rfl
theorem Vi {p : Par} {me : Int} {i : Inp} (h : (i.heard.map ma).Pairwise fun a b => a.1.from_ ≠ b.1.from_) : C6 p me i = Cd p i ++ (Awq p me (i.heard.map ma)).map (Bl9 p) := by
  rw [List.pairwise_map] at h; unfold C6 Awq; rw [Pd (l := i.heard) h, Ar4, List.filter_filter]
  congr 1
  rw [← I1 (fun y => decide (tkM p me y ∧ y.1.ref = true)) (Bl9 p)]; show List.map (Pe p) _ = List.map (Pe p) _
  congr 1
  apply List.filter_congr; intro x _; rw [Bool.eq_iff_iff, Bool.and_eq_true, decide_eq_true_eq, decide_eq_true_eq, decide_eq_true_eq]; exact ⟨fun h => ⟨h.2, h.1⟩, fun h => ⟨h.2, h.1⟩⟩
theorem Ag1 {p : Par} {l : List Hd} (h : (l.map ma).Pairwise fun a b => a.1.from_ ≠ b.1.from_) : Ir p l = (M1 p (l.map ma)).map (Blq p) ∧ (Gx p l).map Ci = (M1 p (l.map ma)).map (fun y => y.1.held) := by
  rw [List.pairwise_map] at h
  have e : Gx p l = l.filter fun h => decide (tkM p (-1) (ma h) ∧ Km (ma h)) := by
    unfold Gx Bj; rw [Pd (l := l) h, List.filter_filter]; apply List.filter_congr
    intro x _; rw [Bool.eq_iff_iff, Bool.and_eq_true, decide_eq_true_eq, decide_eq_true_eq, decide_eq_true_eq]; exact ⟨fun h => ⟨h.2, h.1⟩, fun h => ⟨h.2, h.1⟩⟩
  unfold Ir M1; rw [e]; exact ⟨I1 (fun y => decide (tkM p (-1) y ∧ Km y)) (Blq p) l, I1 (fun y => decide (tkM p (-1) y ∧ Km y)) (fun y => y.1.held) l⟩
theorem mixed {D : Nat → List Sp} {P : Sp → Bool} {N R : Nat} {me : Int} (hRN : R ≤ N) (h1 : ∀ k, k < R → (k : Int) ≠ me → ∃ y, D k = [y] ∧ P y = true) (h2 : ∀ k, k < R → (k : Int) = me → D k = []) (h3 : ∀ k, R ≤ k → k < N → (D k).length ≤ 1) (h4 : ∀ k, N ≤ k → k < 48 → D k = []) (k : Nat) (hk : k ≤ 48) :
    ((List.range k).flatMap D).countP (fun s => !P s) ≤ min k N - R ∧ (min k R : Int) ≤ ((List.range k).flatMap D).length + (if 0 ≤ me ∧ me < min k R then 1 else 0) := by
  induction k with
  | zero =>
    refine ⟨by simp, ?_⟩; simp only [List.range_zero, List.flatMap_nil, List.length_nil]; split <;> omega
  | succ k ih =>
    obtain ⟨i1, i2⟩ := ih (by omega); rw [List.range_succ, List.flatMap_append, List.countP_append, List.length_append]; have e : [k].flatMap D = D k := by simp
    rw [e]
    by_cases hR : k < R
    · by_cases hme : (k : Int) = me
      · rw [h2 k hR hme]; simp only [List.countP_nil, List.length_nil]; refine ⟨by omega, ?_⟩; split at i2 <;> split <;> omega
      · obtain ⟨y, hy, hp⟩ := h1 k hR hme; rw [hy]; simp only [List.countP_cons, List.countP_nil, List.length_cons, List.length_nil, hp]; refine ⟨by simp; omega, ?_⟩; split at i2 <;> split <;> omega
    · by_cases hN : k < N
      · have h := h3 k (by omega) hN; have hc : (D k).countP (fun s => !P s) ≤ (D k).length := List.countP_le_length; refine ⟨by omega, ?_⟩; split at i2 <;> split <;> omega
      · rw [h4 k (by omega) (by omega)]; simp only [List.countP_nil, List.length_nil]; refine ⟨by omega, ?_⟩; split at i2 <;> split <;> omega
theorem Ns {p : Par} (hp : p.Ok) {s : Sp} {t g age : Int} (hg : 0 ≤ g ∧ g ≤ 100000000000000000) (ht : -4503599627370496 ≤ t ∧ t ≤ 4503599627370496) (hs : Bg s t g) (ha : p.Beat - p.Delay - p.Rho ≤ age ∧ age ≤ p.Beat - p.Delay + p.Jitter + p.Rho) : Bg (way p s age) (t + p.Beat) (g + Gj p) := by
  have h1 := hp.Beat; have h2 := hp.Rho; have h3 := hp.Delay; have h4 := hp.Jitter; obtain ⟨⟨a1, a2⟩, a3, a4⟩ := hs; have e1 : sub p.Delay p.Jitter = p.Delay - p.Jitter := Mj (by omega) (by omega); have e2 : neg p.Rho = -p.Rho := by unfold neg; rw [Ap (by omega)]
  have e3 : Bb [sub p.Delay p.Jitter, age, neg p.Rho] = p.Delay - p.Jitter + age - p.Rho := by
    rw [e1, e2]; show Aj (Aj (Aj (0 + Aj (p.Delay - p.Jitter)) + Aj age) + Aj (-p.Rho)) = _; rw [Ap (x := p.Delay - p.Jitter) (by omega), Int.zero_add, Ap (x := p.Delay - p.Jitter) (by omega), Ap (x := age) (by omega), Ap (x := p.Delay - p.Jitter + age) (by omega), Ap (x := -p.Rho) (by omega), Ap (by omega)]; omega
  have e4 : Bb [p.Delay, age, p.Rho] = p.Delay + age + p.Rho := by
    show Aj (Aj (Aj (0 + Aj p.Delay) + Aj age) + Aj p.Rho) = _; rw [Ap (x := p.Delay) (by omega), Int.zero_add, Ap (x := p.Delay) (by omega), Ap (x := age) (by omega), Ap (x := p.Delay + age) (by omega), Ap (x := p.Rho) (by omega), Ap (by omega)]
  unfold way Sp.shift Bg; dsimp only; rw [e3, e4, Fe (by omega) (by omega), Fe (by omega) (by omega)]; unfold Gj; omega
end
section
open Tryz Go.RowKit YtaanjifekgfemaaGreat.K YtaanjifekgfemaaGreat.W YtaanjifekgfemaaGreat.LN
theorem F6 {ws : List Int} {l : List (Int × Int)} {y x : Int × Int} (h : x ∈ l) : x ∈ D9 ws l y := by
  unfold D9; split
  · exact List.mem_append.2 (.inl h)
  · exact h
theorem Lb {ws : List Int} (l : List (Int × Int)) {y : Int × Int} (h : y.1 ≠ y.2) (h1 : y.1 ∈ ws) (h2 : y.2 ∈ ws) : y ∈ D9 ws l y := by
  unfold D9
  by_cases hy : y ∈ l
  · rw [if_neg (fun h => h.2.2.2 hy)]; exact hy
  · rw [if_pos ⟨h, h1, h2, hy⟩]; exact List.mem_append.2 (.inr (.head _))
theorem Ig {ws : List Int} {l : List (Int × Int)} (h : l.Nodup) (y : Int × Int) : (D9 ws l y).Nodup := by
  unfold D9; split
  · rename_i hc; rw [List.nodup_append]; exact ⟨h, by simp, fun a ha b hb => by rw [List.mem_singleton] at hb; subst hb; intro e; subst e; exact hc.2.2.2 ha⟩
  · exact h
theorem Ww {ws : List Int} {l : List (Int × Int)} (h : l.Nodup) (y : Int × Int) : (Cp (D9 ws) l y).Nodup := by
  unfold Cp; split
  · exact Ig (Ig h _) _
  · exact h
theorem Jq {α : Type} (f : List (Int × Int) → α → List (Int × Int)) (hf : ∀ l x, l.Nodup → (f l x).Nodup) (xs : List α) (l : List (Int × Int)) (h : l.Nodup) : (xs.foldl f l).Nodup := by
  induction xs generalizing l with
  | nil => exact h
  | cons x xs ih => exact ih _ (hf l x h)
theorem Axz (ws : List Int) (i : Nat) (l : List (Int × Int)) (n : Nat) (h : l.Nodup) : (jkW ws i l n).Nodup := Jq _ (fun l k h => Ig h _) _ _ h
theorem Axx (ws : List Int) (i : Nat) (l : List (Int × Int)) (cs : List Int) (h : l.Nodup) : (jcW ws i l cs).Nodup := Jq _ (fun l k h => by split; exact Ig h _; exact h) _ _ h
theorem Ao8 (c : Cs) (nd : Nat) : (Fq c nd).Nodup := by
  unfold Fq lnk; refine Jq _ (fun l y h => Ww h y) _ _ ?_; unfold jiW; exact Jq _ (fun l i h => Axx _ _ _ _ (Axz _ _ _ _ h)) _ _ List.nodup_nil
theorem Kj {α : Type} {f : List (Int × Int) → α → List (Int × Int)} (hf : ∀ l x y, y ∈ l → y ∈ f l x) (xs : List α) {l : List (Int × Int)} {y : Int × Int} (h : y ∈ l) : y ∈ xs.foldl f l := by
  induction xs generalizing l with
  | nil => exact h
  | cons x xs ih => exact ih (hf l x y h)
theorem K9 {α : Type} {f : List (Int × Int) → α → List (Int × Int)} (hf : ∀ l x y, y ∈ l → y ∈ f l x) {xs : List α} {x : α} (hx : x ∈ xs) {y : Int × Int} (h : ∀ l, y ∈ f l x) (l : List (Int × Int)) : y ∈ xs.foldl f l := by
  induction xs generalizing l with
  | nil => cases hx
  | cons z xs ih =>
    rcases List.mem_cons.1 hx with rfl | hx
    · exact Kj hf xs (h l)
    · exact ih hx _
theorem Ba3 {α : Type} {f : List (Int × Int) → α → List (Int × Int)} {P : Int × Int → Prop} (hf : ∀ l x y, x = x → y ∈ f l x → y ∈ l ∨ P y) (xs : List α) {l : List (Int × Int)} {y : Int × Int} (h : y ∈ xs.foldl f l) : y ∈ l ∨ P y := by
  induction xs generalizing l with
  | nil => exact .inl h
  | cons x xs ih =>
    rcases ih h with h | h
    · exact hf l x y rfl h
    · exact .inr h
theorem K4 {ws : List Int} {l : List (Int × Int)} {y x : Int × Int} (h : x ∈ l) : x ∈ Cp (D9 ws) l y := by
  unfold Cp; split
  · exact F6 (F6 h)
  · exact h
theorem Ay0 {ws : List Int} {i : Nat} {l : List (Int × Int)} {n : Nat} {y : Int × Int} (h : y ∈ l) : y ∈ jkW ws i l n := Kj (fun l k y h => F6 h) _ h
theorem Ab5 {ws : List Int} {i : Nat} {l : List (Int × Int)} {cs : List Int} {y : Int × Int} (h : y ∈ l) : y ∈ jcW ws i l cs := Kj (fun l k y h => by split; exact F6 h; exact h) _ h
theorem Bb7 {c : Cs} {nd : Nat} (hok : c.p.Ok) {i k : Nat} (hi : i < c.p.N.toNat) (hk : k < c.p.N.toNat) (hne : i ≠ k) : ((i : Int), (k : Int)) ∈ Fq c nd := by
  unfold Fq lnk; refine Kj (fun l x y h => K4 h) _ ?_; unfold jiW; refine K9 (fun l x y h => Ab5 (Ay0 h)) (List.mem_range.2 hi) (fun l => Ab5 ?_) _; unfold jkW; refine K9 (f := fun l (k : Nat) => D9 (Ak c.p.N.toNat nd) l ((i : Int), (k : Int))) (fun l x y h => F6 h) (List.mem_range.2 hk) (fun l => Lb l (by show (i : Int) ≠ (k : Int); omega) (C7.2 (.inl (by show 0 ≤ (i : Int) ∧ (i : Int) < _; omega))) (C7.2 (.inl (by show 0 ≤ (k : Int) ∧ (k : Int) < _; omega)))) _
theorem Bb6 {c : Cs} {nd : Nat} (hok : c.p.Ok) (hnd : nd ≤ 32) {i v : Nat} (hi : i < c.p.N.toNat) (hv : v < nd) (hc : (v : Int) ∈ c.core) : ((i : Int), 16 + (v : Int)) ∈ Fq c nd := by
  unfold Fq lnk; refine Kj (fun l x y h => K4 h) _ ?_; unfold jiW; refine K9 (fun l x y h => Ab5 (Ay0 h)) (List.mem_range.2 hi) (fun l => ?_) _; unfold jcW; have hN := hok.N; refine K9 (fun l x y h => by split; exact F6 h; exact h) hc (fun l => ?_) _; rw [if_pos (by omega)]; exact Lb l (by show (i : Int) ≠ 16 + (v : Int); omega) (C7.2 (.inl (by show 0 ≤ (i : Int) ∧ (i : Int) < _; omega))) (C7.2 (.inr (by show 16 ≤ 16 + (v : Int) ∧ 16 + (v : Int) < _; omega)))
theorem Bb8 {c : Cs} {nd : Nat} (hnd : nd ≤ 32) {u v : Nat} (hu : u < nd) (hv : v < nd) (hne : u ≠ v) (h : ((u : Int), (v : Int)) ∈ c.links ∨ ((v : Int), (u : Int)) ∈ c.links) : (16 + (u : Int), 16 + (v : Int)) ∈ Fq c nd := by
  have hwu : 16 + (u : Int) ∈ Ak c.p.N.toNat nd := C7.2 (.inr (by omega)); have hwv : 16 + (v : Int) ∈ Ak c.p.N.toNat nd := C7.2 (.inr (by omega)); unfold Fq lnk; rcases h with h | h
  · refine K9 (fun l x y h => K4 h) h (fun l => ?_) _; unfold Cp; rw [if_pos (by unfold inB; omega)]; exact F6 (Lb l (by show 16 + (u : Int) ≠ 16 + (v : Int); omega) hwu hwv)
  · refine K9 (fun l x y h => K4 h) h (fun l => ?_) _; unfold Cp; rw [if_pos (by unfold inB; omega)]; exact Lb _ (by show 16 + (u : Int) ≠ 16 + (v : Int); omega) hwu hwv
def Ou (c : Cs) (nd : Nat) (y : Int × Int) : Prop := y.1 ≠ y.2 ∧ y.1 ∈ Ak c.p.N.toNat nd ∧ y.2 ∈ Ak c.p.N.toNat nd ∧ (y.1 < 16 → 16 ≤ y.2 → y.2 - 16 ∈ c.core)
theorem Ah8 {c : Cs} {nd : Nat} (hok : c.p.Ok) {y : Int × Int} (h : y ∈ Fq c nd) : Ou c nd y := by
  have hN := hok.N
  have hj : ∀ (l : List (Int × Int)) (z y : Int × Int), y ∈ D9 (Ak c.p.N.toNat nd) l z → (z.1 < 16 → 16 ≤ z.2 → z.2 - 16 ∈ c.core) → y ∈ l ∨ Ou c nd y := by
    intro l z y hy hz; unfold D9 at hy; split at hy
    · rename_i hc; rcases List.mem_append.1 hy with hy | hy
      · exact .inl hy
      · rw [List.mem_singleton] at hy; subst hy; exact .inr ⟨hc.1, hc.2.1, hc.2.2.1, hz⟩
    · exact .inl hy
  unfold Fq lnk at h
  have h2 : y ∈ jiW (Ak c.p.N.toNat nd) c.p.N.toNat c.core c.p.N.toNat ∨ Ou c nd y := by
    refine Ba3 (P := Ou c nd) (fun l x y _ hy => ?_) _ h; unfold Cp at hy; split at hy
    · rename_i hb; unfold inB at hb; rcases hj _ _ _ hy (fun h1 _ => by dsimp only at h1; omega) with hy | hy
      · exact hj _ _ _ hy (fun h1 _ => by dsimp only at h1; omega)
      · exact .inr hy
    · exact .inl hy
  refine h2.elim (fun h => ?_) id; unfold jiW at h
  have key : y ∈ ([] : List (Int × Int)) ∨ Ou c nd y := by
    have hfold : ∀ (js : List Nat), (∀ j ∈ js, j < c.p.N.toNat) → ∀ l : List (Int × Int), y ∈ js.foldl (fun l (i : Nat) => jcW (Ak c.p.N.toNat nd) i (jkW (Ak c.p.N.toNat nd) i l c.p.N.toNat) c.core) l → y ∈ l ∨ Ou c nd y := by
      intro js
      induction js with
      | nil => intro _ l h; exact .inl h
      | cons j js ih =>
        intro hjs l h; rcases ih (fun x hx => hjs x (.tail _ hx)) _ h with h | h
        · have hc : ∀ (cs : List Int), (∀ x ∈ cs, x ∈ c.core) → ∀ l : List (Int × Int), y ∈ jcW (Ak c.p.N.toNat nd) j l cs → y ∈ l ∨ Ou c nd y := by
            intro cs; unfold jcW
            induction cs with
            | nil => intro _ l h; exact .inl h
            | cons v cs ih2 =>
              intro hcs l h; rcases ih2 (fun x hx => hcs x (.tail _ hx)) _ h with h | h
              · dsimp only at h; split at h
                · exact hj _ _ _ h (fun _ _ => by show 16 + v - 16 ∈ c.core; rw [show 16 + v - 16 = v by omega]; exact hcs v (.head _))
                · exact .inl h
              · exact .inr h
          rcases hc c.core (fun _ h => h) _ h with h | h
          · have hk : ∀ (ks : List Nat), (∀ k ∈ ks, k < c.p.N.toNat) → ∀ l : List (Int × Int), y ∈ ks.foldl (fun l (k : Nat) => D9 (Ak c.p.N.toNat nd) l ((j : Int), (k : Int))) l → y ∈ l ∨ Ou c nd y := by
              intro ks
              induction ks with
              | nil => intro _ l h; exact .inl h
              | cons k ks ih3 =>
                intro hks l h; rcases ih3 (fun x hx => hks x (.tail _ hx)) _ h with h | h
                · exact hj _ _ _ h (fun _ h2 => by have := hks k (.head _); dsimp only at h2; omega)
                · exact .inr h
            exact hk _ (fun k hk => List.mem_range.1 hk) l h
          · exact .inr h
        · exact .inr h
    exact hfold _ (fun j hj => List.mem_range.1 hj) [] h
  exact key.resolve_left (fun h => by cases h)
end
section
open Tryz Go.RowKit YtaanjifekgfemaaGreat.K YtaanjifekgfemaaGreat.W YtaanjifekgfemaaGreat.LN YtaanjifekgfemaaGreat.CM
def TB (t : Int) : Prop := -2251799813685248 ≤ t ∧ t ≤ 2251799813685248
def Ak4 (p : Par) (us : List PU) : Prop := ∀ u ∈ us, u.s.Fit p ∧ NearFit u.es
inductive Hist (c : Cs) (nd : Nat) : Nat → List PU → List M → Stp → Int → Prop
  | one {us0 us : List PU} {sd : List M} {s : Stp} {t : Int} : us0.map (fun u => u.who) = Ak c.p.N.toNat nd → Ak4 c.p us0 → Beats c.p s (Ak c.p.N.toNat nd) (Fq c nd) us0 us sd → Fair c.p t s → TB t → Hist c nd 1 us sd s (t + c.p.Beat)
  | next {b : Nat} {us0 us : List PU} {sd0 sd : List M} {s0 s : Stp} {t : Int} : Hist c nd b us0 sd0 s0 t → Ak4 c.p us0 → Beats c.p s (Ak c.p.N.toNat nd) (Fq c nd) us0 us sd → Fair c.p t s → TB t → Hist c nd (b + 1) us sd s (t + c.p.Beat)
theorem Dg {p : Par} {s : Stp} {ws : List Int} {links : List (Int × Int)} {us us' : List PU} {sd : List M} (h : Beats p s ws links us us' sd) (hws : us.map (fun u => u.who) = ws) : us'.map (fun u => u.who) = ws := by
  subst hws; apply List.ext_getElem?
  intro k; rw [List.getElem?_map, List.getElem?_map]
  cases hu : us[k]? with
  | none =>
    have : us'[k]? = none := by rw [List.getElem?_eq_none_iff] at hu ⊢; have := h.len; omega
    rw [this]
  | some u =>
    obtain ⟨u', m, h1, _, h3, _⟩ := h.one k u hu; rw [h1]; exact congrArg some h3.who
theorem Hist.whos {c : Cs} {nd b : Nat} {us : List PU} {sd : List M} {s : Stp} {t : Int} (h : Hist c nd b us sd s t) : us.map (fun u => u.who) = Ak c.p.N.toNat nd := by
  induction h with
  | one h1 _ h2 _ _ => exact Dg h2 h1
  | next _ _ h2 _ _ ih => exact Dg h2 ih
theorem Yg {x : Wd} {p : Par} {nd : Nat} {G : List Res} (h : x.Ok p nd G) : Ak4 p (puL x.ms) := by
  intro u hu; unfold puL at hu; obtain ⟨m, hm, rfl⟩ := List.mem_map.1 hu; exact ⟨(h.ms m hm).fit, (h.ms m hm).near⟩
theorem A07 {x : Wd} {p : Par} {nd : Nat} {G : List Res} (h : x.Ok p nd G) : (puL x.ms).map (fun u => u.who) = Ak p.N.toNat nd := by
  rw [← h.who]; unfold puL Fw; rw [List.map_map]; rfl
theorem RunT.tb {c : Cs} {nd b : Nat} {x : Wd} {n l : Nat} (h : RunT c nd b x n l) (hok : c.p.Ok) (ht : -1125899906842624 ≤ c.time ∧ c.time ≤ 1125899906842624) (hb : b ≤ 200) : TB x.time := by
  obtain ⟨h1, h2, h3⟩ := h.time hok ht hb; unfold TB; omega
theorem Sj {c : Cs} {nd b : Nat} {x x' : Wd} {n l : Nat} {stp : Stp} {G G' : List Res} (hok : c.p.Ok) (hnd : nd ≤ 32) (h : RunT c nd b x n l) (hx : x.Ok c.p nd G) (hx' : x'.Ok c.p nd G') (ho : StpOf c (Ak c.p.N.toNat nd) x.time n l stp) (hs : StepW c.p stp G G' x x') :
    ∃ sd, Beats c.p stp (Ak c.p.N.toNat nd) (Fq c nd) (puL x.ms) (puL x'.ms) sd := by
  have hl : x'.links = Fq c nd := (hs.links_id ho.cut ho.join).trans h.links; obtain ⟨sd, hb⟩ := hs.beats hok hnd hx ho.off ho.lost (by rw [hl]; exact Ao8 c nd) hx'.links; rw [hl] at hb; exact ⟨sd, hb⟩
theorem Ug {c : Cs} {x x' : Wd} {stp : Stp} {G G' : List Res} (hok : c.p.Ok) (ht : TB x.time) (hs : StepW c.p stp G G' x x') : x'.time = x.time + c.p.Beat := by
  have := hok.Beat
  unfold TB at ht; rw [hs.time, Fe (by omega) (by omega)]
theorem Baq {c : Cs} {nd : Nat} (hok : c.p.Ok) (hnd : nd ≤ 32) (ht : -1125899906842624 ≤ c.time ∧ c.time ≤ 1125899906842624) : ∀ (b : Nat) {x : Wd} {n l : Nat}, RunT c nd (b + 1) x n l → b + 1 ≤ 200 → ∃ sd s, Hist c nd (b + 1) (puL x.ms) sd s x.time := by
  intro b
  induction b with
  | zero =>
    intro x n l h hb
    cases h with
    | step h hx hx' ho hs =>
      have htb := h.tb hok ht (by omega); obtain ⟨sd, hbe⟩ := Sj hok hnd h hx hx' ho hs; rw [Ug hok htb hs]; exact ⟨sd, _, Hist.one (A07 hx) (Yg hx) hbe (ho.fair hok) htb⟩
  | succ b ih =>
    intro x n l h hb
    cases h with
    | step h hx hx' ho hs =>
      have htb := h.tb hok ht (by omega); obtain ⟨sd0, s0, h0⟩ := ih h (by omega); obtain ⟨sd, hbe⟩ := Sj hok hnd h hx hx' ho hs; rw [Ug hok htb hs]; exact ⟨sd, _, Hist.next h0 (Yg hx) hbe (ho.fair hok) htb⟩
theorem J2 (p : Par) (s : Stt) (ticks : Int) (nx : Stt) : (Bv p s ticks nx).lo = (Az p nx).lo ∧ (Bv p s ticks nx).hi = (Az p nx).hi ∧ (Bv p s ticks nx).held = (Az p nx).held ∧ (Bv p s ticks nx).hops = (Az p nx).hops ∧ (Bv p s ticks nx).good = (Az p nx).good ∧ (Bv p s ticks nx).time = Fb p s ticks nx ∧ (Bv p s ticks nx).set = true := by
  unfold Bv; split <;> exact ⟨rfl, rfl, rfl, rfl, rfl, rfl, rfl⟩
def Qa (p : Par) (s : Stt) : Prop := -2305843009213693952 ≤ s.lo ∧ s.lo ≤ s.hi ∧ s.hi ≤ 2305843009213693952 ∧ (0 ≤ s.held ∧ s.held ≤ 1073741824) ∧ 0 ≤ s.hops ∧ s.hops ≤ p.D + 1
theorem Kx {p : Par} (hp : p.Ok) {s : Stt} (h : Qa p s) : (Az p s).lo = s.lo ∧ (Az p s).hi = s.hi ∧ (Az p s).held = s.held ∧ (Az p s).hops = s.hops ∧ (Az p s).good = s.good := by
  obtain ⟨h1, h2, h3, h4, h5, h6⟩ := h; have hD := hp.D; have e1 : Aj s.lo = s.lo := Ap (by omega); have e2 : Aj s.hi = s.hi := Ap (by omega); have e3 : Bb [p.D, 1] = p.D + 1 := Tc (by omega) (by decide) (by omega); unfold Az; dsimp only; rw [e1, e2, e3, if_neg (by omega), if_neg (by omega), if_neg (by omega)]; exact ⟨rfl, rfl, Ms h4, Ms ⟨h5, h6⟩, rfl⟩
theorem I6 (s : Stt) : (Bk s).lo = s.lo ∧ (Bk s).hi = s.hi ∧ (Bk s).held = s.held ∧ (Bk s).hops = s.hops ∧ (Bk s).good = s.good ∧ (Bk s).time = s.time ∧ (Bk s).set = s.set := ⟨rfl, rfl, rfl, rfl, rfl, rfl, rfl⟩
theorem Rc (p : Par) (s : Stt) (l : List Hd) : (B8 p s l).lo = s.lo ∧ (B8 p s l).hi = s.hi ∧ (B8 p s l).held = s.held ∧ (B8 p s l).hops = s.hops ∧ (B8 p s l).good = s.good ∧ (B8 p s l).time = s.time ∧ (B8 p s l).set = s.set := by
  unfold B8; refine Hf (fun z : Stt => z.lo = s.lo ∧ z.hi = s.hi ∧ z.held = s.held ∧ z.hops = s.hops ∧ z.good = s.good ∧ z.time = s.time ∧ z.set = s.set) _ _ _ ⟨rfl, rfl, rfl, rfl, rfl, rfl, rfl⟩ fun b x _ hb => ?_; unfold Jc; split
  · exact hb
  · exact hb
structure Says (u : PU) (m : M) : Prop where
  from_ : m.from_ = u.who
  slo : m.slo = u.s.lo
  shi : m.shi = u.s.hi
  held : m.held = u.s.held
  hops : m.hops = u.s.hops
  good : m.good = u.s.good
theorem One.says {p : Par} {s : Stp} {u u' : PU} {m : M} (h : One p s u u' m) : Says u' m ∧ (u.who < 16 → m.kind = 1) ∧ (¬ u.who < 16 → m.kind = 2) := by
  obtain ⟨i, _, hb⟩ := h.inp; rcases hb with ⟨h1, h2, _, rfl⟩ | ⟨h1, clock, tab, _, h2, _, rfl⟩
  · refine ⟨⟨h.who.symm, ?_, ?_, ?_, ?_, ?_⟩, fun _ => rfl, fun h => absurd h1 h⟩ <;> rw [h2] <;> rfl
  · refine ⟨⟨h.who.symm, ?_, ?_, ?_, ?_, ?_⟩, fun h => absurd h h1, fun _ => rfl⟩ <;> rw [h2] <;> rfl
theorem One.refs {p : Par} (hp : p.Ok) {s : Stp} {u u' : PU} {m : M} (h : One p s u u' m) (hw : 0 ≤ u.who ∧ u.who < 16) {t : Int} (ht : TB t) (hf : Fair p t s) :
    (u.who < p.N - p.F → m.ref = true ∧ Bg ⟨m.elo, m.ehi⟩ (t + p.Beat) (2 * p.Eps)) ∧ (¬ u.who < p.N - p.F → m.ref = false) := by
  have hE := hp.Eps; have hB := hp.Beat
  unfold TB at ht; obtain ⟨i, hi, hb⟩ := h.inp; rcases hb with ⟨h1, h2, _, rfl⟩ | ⟨h1, _⟩
  · obtain ⟨r1, r2, r3⟩ := hf.read u.who s.ticks; rw [← hi.ref, ← hi.reading] at r2; refine ⟨fun hr => ?_, fun hr => ?_⟩
    · obtain ⟨r, hr1, hr2⟩ := hf.all u.who.toNat (by omega); have href : i.ref = true := by rw [hi.ref]; exact r3 r hr1 (by omega)
      obtain ⟨_, q1, q2⟩ := r2 href; have hso : Cc p i.reading := by unfold Cc; omega
      have hro : Kw p i := ⟨hso, href⟩
      have es : Fu p i = ⟨i.reading - p.Eps, i.reading + p.Eps⟩ := by
        unfold Fu Ax; rw [if_pos hro, if_pos hso, Mj (by omega) (by omega), Fe (by omega) (by omega)]
      refine ⟨decide_eq_true hro, ?_⟩; show Bg ⟨(Fu p i).lo, (Fu p i).hi⟩ _ _; rw [es]; unfold Bg; dsimp only; omega
    · have href : ¬ i.ref = true := fun hx => hr (r2 hx).1; exact decide_eq_false fun hx => href hx.2
  · exact absurd hw.2 h1
theorem Ar3 {p : Par} (hp : p.Ok) {s : Stp} {who : Int} {qs : Qs} {i : Inp} (hi : InpOf p s who qs i) (hw : 0 ≤ who ∧ who < 16) {t : Int} (ht : TB t) (hf : Fair p t s) :
    (who < p.N - p.F → ∃ y, Cd p i = [y] ∧ Bg y (t + p.Beat) (2 * p.Eps)) ∧ (¬ who < p.N - p.F → Cd p i = []) := by
  have hE := hp.Eps; have hB := hp.Beat
  unfold TB at ht; obtain ⟨r1, r2, r3⟩ := hf.read who s.ticks; rw [← hi.ref, ← hi.reading] at r2; refine ⟨fun hr => ?_, fun hr => ?_⟩
  · obtain ⟨r, hr1, hr2⟩ := hf.all who.toNat (by omega); have href : i.ref = true := by rw [hi.ref]; exact r3 r hr1 (by omega)
    obtain ⟨_, q1, q2⟩ := r2 href; have hso : Cc p i.reading := by unfold Cc; omega
    have hro : Kw p i := ⟨hso, href⟩; refine ⟨Ax p i.reading, if_pos hro, ?_⟩; unfold Ax; rw [if_pos hso, Mj (by omega) (by omega), Fe (by omega) (by omega)]; unfold Bg; dsimp only; omega
  · exact if_neg fun hx => hr (r2 hx.2).1
theorem Hist.last {c : Cs} {nd b : Nat} {us : List PU} {sd : List M} {s : Stp} {t : Int} (h : Hist c nd b us sd s t) : ∃ us0 t0, us0.map (fun u => u.who) = Ak c.p.N.toNat nd ∧ Ak4 c.p us0 ∧ Beats c.p s (Ak c.p.N.toNat nd) (Fq c nd) us0 us sd ∧ Fair c.p t0 s ∧ TB t0 ∧ t = t0 + c.p.Beat := by
  cases h with
  | one h1 h2 h3 h4 h5 => exact ⟨_, _, h1, h2, h3, h4, h5, rfl⟩
  | next h1 h2 h3 h4 h5 => exact ⟨_, _, h1.whos, h2, h3, h4, h5, rfl⟩
theorem Hi {us : List PU} {ws : List Int} (h : us.map (fun u => u.who) = ws) {k : Nat} {u : PU} (hk : us[k]? = some u) : ws[k]? = some u.who := by rw [← h, List.getElem?_map, hk]; rfl
theorem I7 {us : List PU} {ws : List Int} (h : us.map (fun u => u.who) = ws) {k : Nat} {w : Int} (hk : ws[k]? = some w) : ∃ u, us[k]? = some u ∧ u.who = w := by
  rw [← h, List.getElem?_map] at hk; exact Option.map_eq_some_iff.1 hk
def Lt (q : M × Int → Bool) (g : M × Int → Sp) (qs : Qs) (age : Nat → Int) (f : Nat) : List Sp := ((Ex f (age f) (qs.getD f [])).filter q).map g
theorem Xv (q : M × Int → Bool) (g : M × Int → Sp) (qs : Qs) (age : Nat → Int) : ((Br qs age 48).filter q).map g = (List.range 48).flatMap (Lt q g qs age) := by
  unfold Br Lt; rw [List.filter_flatMap, List.map_flatMap]
theorem Xu {qs : Qs} (h : A68 qs) (q : M × Int → Bool) (g : M × Int → Sp) (age : Nat → Int) {f : Nat} (hf : f < 48) : (Lt q g qs age f).length ≤ 1 := by
  unfold Lt; rw [List.length_map]; exact Nat.le_trans (List.length_filter_le _ _) (Nat.le_trans (R9 _ _ _) (h f hf))
theorem Oa {qs : Qs} {q : M × Int → Bool} {g : M × Int → Sp} {age : Nat → Int} {f : Nat} (h : ∀ y ∈ Ex f (age f) (qs.getD f []), q y = false) : Lt q g qs age f = [] := by
  unfold Lt; rw [List.filter_eq_nil_iff.2 (fun y hy => by rw [h y hy]; decide)]; rfl
theorem Tu {qs : Qs} {q : M × Int → Bool} {g : M × Int → Sp} {age : Nat → Int} {f : Nat} {y : M × Int} (h : Ex f (age f) (qs.getD f []) = [y]) (hq : q y = true) : Lt q g qs age f = [g y] := by
  unfold Lt; rw [h, List.filter_cons, if_pos hq]; rfl
theorem Rr {p : Par} (hp : p.Ok) {me : Int} {qs : Qs} (hth : A68 qs) (own : List Sp) {age : Nat → Int} {q : M × Int → Bool} {g : M × Int → Sp} {t r : Int} (hr : 0 ≤ r ∧ r ≤ 100000000000000000) (ht : -4503599627370496 ≤ t ∧ t ≤ 4503599627370496)
    (h1 : ∀ k : Nat, (k : Int) < p.N - p.F → (k : Int) ≠ me → ∃ y, Ex k (age k) (qs.getD k []) = [y] ∧ q y = true ∧ Bg (g y) t r)
    (h2 : ∀ y : M × Int, q y = true → 0 ≤ y.1.from_ ∧ y.1.from_ < p.N ∧ y.1.from_ ≠ me) (h3 : ((0 ≤ me ∧ me < p.N - p.F) → ∃ y, own = [y] ∧ Bg y t r) ∧ (¬ (0 ≤ me ∧ me < p.N - p.F) → own = [])) :
    E6 p.F (own ++ ((Br qs age 48).filter q).map g) ∧ Bg (Dk p.F (own ++ ((Br qs age 48).filter q).map g)) t r := by
  have hN := hp.N; have hF := hp.F; rw [Xv]
  have hm := mixed (D := Lt q g qs age) (P := fun s => decide (Bg s t r)) (N := p.N.toNat) (R := (p.N - p.F).toNat) (me := me) (by omega) (fun k hk hne => by
      obtain ⟨y, hy, hq, hy2⟩ := h1 k (by omega) hne
      exact ⟨g y, Tu hy hq, decide_eq_true hy2⟩)
    (fun k hk he => Oa fun y hy => by
      refine Bool.eq_false_iff.2 fun hq => ?_; have h4 := (Ey hy).1
      exact (h2 y hq).2.2 (by omega))
    (fun k hk hk2 => Xu hth q g age (by omega)) (fun k hk hk2 => Oa fun y hy => by
      refine Bool.eq_false_iff.2 fun hq => ?_; have h4 := (Ey hy).1; have := (h2 y hq).2.1
      omega) 48 (Nat.le_refl _)
  obtain ⟨hb, hl⟩ := hm; refine Am7 hF.1 ?_ ?_ hr.1 (by omega)
  · rw [List.length_append]
    by_cases hc : 0 ≤ me ∧ me < p.N - p.F
    · obtain ⟨y, hy, _⟩ := h3.1 hc; rw [hy]; simp only [List.length_cons, List.length_nil]; split at hl <;> omega
    · rw [h3.2 hc]; simp only [List.length_nil]; split at hl
      · rename_i hx; exact absurd ⟨hx.1, by omega⟩ hc
      · omega
  · rw [List.countP_append]
    have ho : own.countP (fun s => !decide (Bg s t r)) = 0 := by
      by_cases hc : 0 ≤ me ∧ me < p.N - p.F
      · obtain ⟨y, hy, hy2⟩ := h3.1 hc; rw [hy, List.countP_cons, List.countP_nil, decide_eq_true hy2]; rfl
      · rw [h3.2 hc]; rfl
    rw [ho]; omega
theorem Xh {c : Cs} {nd b : Nat} (hok : c.p.Ok) (hnd : nd ≤ 32) {us : List PU} {sd : List M} {s : Stp} {t : Int} (h : Hist c nd b us sd s t) {k : Nat} {u : PU} (hk : us[k]? = some u) {f : Nat} {j : Nat} (hj : (Ak c.p.N.toNat nd)[j]? = some (f : Int)) (hf48 : f < 48) (hl : ((f : Int), u.who) ∈ Fq c nd) (hh : 16 ≤ (f : Int) ∨ (f : Int) < c.p.N - c.p.F) (age : Int) :
    ∃ (u0 v : PU) (m : M) (t0 : Int), us[j]? = some v ∧ v.who = (f : Int) ∧ u0.who = (f : Int) ∧ sd[j]? = some m ∧ One c.p s u0 v m ∧ Fair c.p t0 s ∧ TB t0 ∧ t = t0 + c.p.Beat ∧ Ex f age (u.qs.getD f []) = [(m, age)] := by
  obtain ⟨us0, t0, h1, h2, h3, h4, h5, h6⟩ := h.last; obtain ⟨u0, hu0, hw0⟩ := I7 h1 hj; obtain ⟨v, m, hv, hm, hone, _, _⟩ := h3.one j u0 hu0; exact ⟨u0, v, m, t0, hv, hone.who.trans hw0, hw0, hm, hone, h4, h5, h6, (Jr h3 h1 hk hf48 age).2.1 j m hj hm hl (h4.hon hh)⟩
theorem Am8 {c : Cs} {nd b : Nat} (hok : c.p.Ok) (hnd : nd ≤ 32) {us us' : List PU} {sd sd' : List M} {s s' : Stp} {t : Int} (h : Hist c nd b us sd s t) (hb : Beats c.p s' (Ak c.p.N.toNat nd) (Fq c nd) us us' sd') (hf : Fair c.p t s') (ht : TB t) {k : Nat} {u u' : PU} {m : M} (hk : us[k]? = some u) (hk' : us'[k]? = some u') (hone : One c.p s' u u' m) (hw : u.who < 16) :
    u'.s.good = true ∧ u'.s.hops = 0 ∧ u'.s.held = 0 ∧ Bg ⟨u'.s.lo, u'.s.hi⟩ (t + c.p.Beat) (gN c.p) := by
  have hN := hok.N; have hF := hok.F; have hB := hok.Beat; have hE := hok.Eps; have hgN := Lq hok; have hh := E1 hok; obtain ⟨us0, t0, h1, h2, h3, h4, h5, h6⟩ := h.last; have hthin := h3.thin h1 hk; obtain ⟨i, hi, hbc⟩ := hone.inp; have hwm : u.who ∈ Ak c.p.N.toNat nd := List.mem_of_getElem? (Hi h.whos hk); rw [C7] at hwm; have hw0 : 0 ≤ u.who ∧ u.who < c.p.N := by omega
  rcases hbc with ⟨_, hs, _, _⟩ | ⟨hx, _⟩
  · have hne : (i.heard.map ma).Pairwise fun a b => a.1.from_ ≠ b.1.from_ := by rw [hi.heard]; exact M8 hthin _ 48 (Nat.le_refl _)
    have hsp := Vi (p := c.p) (me := u.who) hne; rw [hi.heard] at hsp; unfold Awq at hsp; have hTB := ht; unfold TB at hTB; obtain ⟨o1, o2⟩ := Ar3 hok hi ⟨hw0.1, hw⟩ ht hf
    have hfu := Rr hok (me := u.who) hthin (Cd c.p i) (age := Bi c.p u.who s'.ages) (q := fun y => decide (tkM c.p u.who y ∧ y.1.ref = true)) (g := Bl9 c.p) (t := t + c.p.Beat) (r := gN c.p) (by omega) (by omega) (fun f hfR hfne => by
        obtain ⟨u0, v, mf, t1, hv, hvw, hu0w, hmf, honef, hfa, htb, hte, hrow⟩ := Xh hok hnd h hk (f := f) (j := f) (Sr (by omega)) (by omega) (by
            have := Bb7 (c := c) (nd := nd) hok (i := f) (k := u.who.toNat) (by omega) (by omega) (by omega); rw [Int.toNat_of_nonneg hw0.1] at this
            exact this) (.inr hfR) (Bi c.p u.who s'.ages f)
        obtain ⟨r1, r2⟩ := honef.refs hok (by omega) htb hfa; obtain ⟨q1, q2⟩ := r1 (by omega); obtain ⟨sa, sk, _⟩ := honef.says; have hfrom : mf.from_ = (f : Int) := sa.from_.trans hvw; refine ⟨(mf, Bi c.p u.who s'.ages f), hrow, decide_eq_true ⟨⟨sk (by omega), ?_, ?_, ?_⟩, q1⟩, ?_⟩
        · show 0 ≤ mf.from_; omega
        · show mf.from_ < min c.p.N 16; omega
        · show mf.from_ ≠ u.who; omega
        · rw [← hte] at q2; have := Ns hok (g := 2 * c.p.Eps) (by omega) (by omega) q2 (hf.age hok u.who f)
          exact this)
      (fun y hy => by
        have := of_decide_eq_true hy; obtain ⟨⟨_, a1, a2, a3⟩, _⟩ := this
        exact ⟨a1, by omega, a3⟩)
      ⟨fun hc => by
        obtain ⟨y, hy, hy2⟩ := o1 hc.2; refine ⟨y, hy, ?_⟩; unfold Bg at hy2 ⊢; unfold gN
        omega, fun hc => o2 fun hx => hc ⟨hw0.1, hx⟩⟩
    rw [← hsp] at hfu; obtain ⟨hfo, hft⟩ := hfu; have hg1 : Kk c.p u.who u.s i = { W8 c.p u.s i with lo := (Dk c.p.F (C6 c.p u.who i)).lo, hi := (Dk c.p.F (C6 c.p u.who i)).hi, held := 0, good := true } := if_pos hfo; have hgiv : i.given = false := by rw [hi.given]; exact (hf.read u.who s'.ticks).1
    have hgn : Bz c.p u.who u.s i = Kk c.p u.who u.s i := by unfold Bz; rw [hgiv]; rfl
    have hlo : (Bz c.p u.who u.s i).lo = (Dk c.p.F (C6 c.p u.who i)).lo := by rw [hgn, hg1]
    have hhi : (Bz c.p u.who u.s i).hi = (Dk c.p.F (C6 c.p u.who i)).hi := by rw [hgn, hg1]
    have hhe : (Bz c.p u.who u.s i).held = 0 := by rw [hgn, hg1]
    have hho : (Bz c.p u.who u.s i).hops = 0 := by rw [hgn, hg1]; rfl
    have hgo : (Bz c.p u.who u.s i).good = true := by rw [hgn, hg1]
    have hD := hok.D
    have hf5 : Qa c.p (Bz c.p u.who u.s i) := by
      unfold Qa; rw [hlo, hhi, hhe, hho]; unfold Bg at hft; omega
    obtain ⟨s1, s2, s3, s4, s5⟩ := Kx hok hf5; obtain ⟨f1, f2, f3, f4, f5, _⟩ := J2 c.p u.s i.ticks (Bz c.p u.who u.s i); have e : u'.s = Bk (Bv c.p u.s i.ticks (Bz c.p u.who u.s i)) := hs; obtain ⟨p1, p2, p3, p4, p5, _⟩ := I6 (Bv c.p u.s i.ticks (Bz c.p u.who u.s i)); rw [e, p1, p2, p3, p4, p5, f1, f2, f3, f4, f5, s1, s2, s3, s4, s5, hlo, hhi, hhe, hho, hgo]; exact ⟨rfl, rfl, rfl, hft⟩
  · exact absurd hw hx
theorem S4 {k : Int} {v v0 : Int × Int} {es : NT} (h : B6 k es = some v0) : B6 k (Ka k v es) = some v := by
  induction es with
  | nil => cases h
  | cons e es ih =>
    unfold Ka; unfold B6 at h
    by_cases hk : k = e.key
    · rw [if_pos hk]; unfold B6; rw [if_pos hk]
    · rw [if_neg hk] at h ⊢; unfold B6; rw [if_neg hk]; exact ih h
theorem Q9 {k k' : Int} (hne : k' ≠ k) {v : Int × Int} {es : NT} : B6 k' (Ka k v es) = B6 k' es := by
  induction es with
  | nil => rfl
  | cons e es ih =>
    unfold Ka
    by_cases hk : k = e.key
    · rw [if_pos hk]; unfold B6; rw [if_neg (by rw [← hk]; exact hne), if_neg (by rw [← hk]; exact hne)]
    · rw [if_neg hk]; unfold B6; rw [ih]
theorem Xb {k' : Int} {x : Ent Int (Int × Int)} {es : NT} : B6 k' (es ++ [x]) = match B6 k' es with | some v => some v | none => if k' = x.key then some x.val else none := by
  induction es with
  | nil => rfl
  | cons e es ih =>
    rw [List.cons_append]; unfold B6
    by_cases hk : k' = e.key
    · rw [if_pos hk, if_pos hk]
    · rw [if_neg hk, if_neg hk]; exact ih
theorem S3 {k : Int} {v : Int × Int} {c : Nat} {es : NT} : B6 k (Hy k v c es) = some v := by
  unfold Hy
  cases h : B6 k es with
  | some v0 => exact S4 h
  | none => dsimp only; rw [Xb, h]; exact if_pos rfl
theorem Kl {k k' : Int} (hne : k' ≠ k) {v : Int × Int} {c : Nat} {es : NT} : B6 k' (Hy k v c es) = B6 k' es := by
  unfold Hy
  cases h : B6 k es with
  | some v0 => exact Q9 hne
  | none =>
    dsimp only; rw [Xb]
    cases B6 k' es with
    | some v => rfl
    | none => exact if_neg hne
theorem mem_set {k : Int} {v : Int × Int} {es : NT} {e : Ent Int (Int × Int)} (h : e ∈ Ka k v es) : e ∈ es ∨ e.key = k := by
  induction es with
  | nil => cases h
  | cons x es ih =>
    unfold Ka at h; split at h
    · rename_i hk; rcases List.mem_cons.1 h with rfl | h
      · exact .inr hk.symm
      · exact .inl (.tail _ h)
    · rcases List.mem_cons.1 h with rfl | h
      · exact .inl (.head _)
      · exact (ih h).imp (.tail _) id
theorem Ai0 {k : Int} {v : Int × Int} {c : Nat} {es : NT} {e : Ent Int (Int × Int)} (h : e ∈ Hy k v c es) : e ∈ es ∨ e.key = k := by
  unfold Hy at h; split at h
  · exact mem_set h
  · rcases List.mem_append.1 h with h | h
    · exact .inl h
    · rw [List.mem_singleton] at h; subst h; exact .inr rfl
theorem Ayx {who : Int} {c : Nat} {es : NT} {e : Ent Int (Int × Int)} (h : e ∈ Jd es who c) : e ∈ es ∨ e.key = who := by
  unfold Jd at h; split at h
  · exact Ai0 h
  · exact .inl h
theorem Aox {me : Int} {l : List Hd} {k : KS} {e : Ent Int (Int × Int)} (h : e ∈ (Ah me k l).es) : e ∈ k.es ∨ ∃ x ∈ l, e.key = x.m.from_ := by
  unfold Ah at h
  induction l generalizing k with
  | nil => exact .inl h
  | cons x l ih =>
    rcases ih h with h | ⟨y, hy, e2⟩
    · show e ∈ k.es ∨ _; have h2 : e ∈ knE me k x := h; unfold knE at h2; split at h2
      · exact .inl h2
      · exact (Ayx h2).imp id fun e2 => ⟨x, .head _, e2⟩
    · exact .inr ⟨y, .tail _ hy, e2⟩
def Qe (ws : List Int) (b : Nat) (es : NT) : Prop := ∀ e ∈ es, 1 ≤ e.val.2 ∧ (e.key ∈ ws ∨ ((b : Int) ≤ e.val.2 ∧ b ≤ 3))
theorem X2 {es : NT} {e' : Ent Int (Int × Int)} (h : e' ∈ Eh 2 es) : ∃ e ∈ es, ¬ Dv 2 e ∧ e' = Eo 2 e := by
  unfold Eh at h; obtain ⟨e, he, rfl⟩ := List.mem_map.1 h; obtain ⟨h1, h2⟩ := List.mem_filter.1 he; exact ⟨e, h1, by simpa using h2, rfl⟩
theorem Arx {ws : List Int} {es : NT} (h : NearFit es) (me : Int) (c : Nat) (l : List Hd) : Qe ws 1 (Eh 2 (Ad me es c l).es) := by
  intro e' he'; obtain ⟨e, he, _, rfl⟩ := X2 he'; have hf := (NearFit.known (k := ⟨es, c, []⟩) h me l).val e he; show 1 ≤ min (e.val.2 + 1) 1073741824 ∧ (_ ∨ (1 : Int) ≤ min (e.val.2 + 1) 1073741824 ∧ _); exact ⟨by omega, .inr ⟨by omega, by decide⟩⟩
theorem A4q {ws : List Int} {b : Nat} (hb : 1 ≤ b) {es : NT} (h : NearFit es) (hi : Qe ws b es) (me : Int) (c : Nat) {l : List Hd} (hl : ∀ x ∈ l, x.m.from_ ∈ ws) : Qe ws (b + 1) (Eh 2 (Ad me es c l).es) := by
  intro e' he'; obtain ⟨e, he, hg, rfl⟩ := X2 he'; have hf := (NearFit.known (k := ⟨es, c, []⟩) h me l).val e he; show 1 ≤ min (e.val.2 + 1) 1073741824 ∧ (e.key ∈ ws ∨ ((b + 1 : Nat) : Int) ≤ min (e.val.2 + 1) 1073741824 ∧ _); refine ⟨by omega, ?_⟩; rcases Aox he with he | ⟨x, hx, hk⟩
  · rcases (hi e he).2 with h1 | ⟨h1, h2⟩
    · exact .inl h1
    · refine .inr ⟨?_, ?_⟩
      · omega
      · unfold Dv at hg; omega
  · exact .inl (by rw [hk]; exact hl x hx)
theorem A42 {ws : List Int} {b : Nat} (hb : 4 ≤ b) {es : NT} (hi : Qe ws b es) : ∀ e ∈ es, e.key ∈ ws := fun e he => (hi e he).2.elim id fun h => by omega
theorem Ao0 {ws : List Int} (hws : ∀ w ∈ ws, 0 ≤ w ∧ w < 48) (hlen : ws.length ≤ 15) {me : Int} {es0 : NT} : ∀ (l : List Hd) (k : KS) (pre : List Hd), (pre ++ l).Pairwise (fun a b => a.m.from_ ≠ b.m.from_) → (∀ x ∈ l, x.m.from_ ∈ ws ∧ x.m.from_ ≠ me) → NearFit k.es → (∀ e ∈ k.es, e.key ∈ ws) → k.out.Sublist pre →
    (∀ x ∈ l, B6 x.m.from_ k.es = B6 x.m.from_ es0) →
    (Ah me k l).out = k.out ++ l.filter (fun h => decide (Eu (B9 es0 h.m.from_).1 h)) ∧ (∀ x ∈ l, B6 x.m.from_ (Ah me k l).es = some ((B9 es0 x.m.from_).1, 0)) ∧ (∀ w, (∀ x ∈ l, x.m.from_ ≠ w) → B6 w (Ah me k l).es = B6 w k.es) := by
  intro l
  induction l with
  | nil => intro k pre _ _ _ _ _ _; exact ⟨by simp [Ah], (fun x h => by cases h), fun w _ => O⟩
  | cons x l ih =>
    intro k pre hp hl hn hk ho hg; have hx := hl x (.head _)
    have hskip : ¬ Ju me k x := by
      rintro (⟨y, hy, e⟩ | e)
      · rw [List.pairwise_append] at hp; exact hp.2.2 y (ho.subset hy) x (.head _) (of_decide_eq_true e)
      · exact hx.2 e
    have hroom : k.es.length ≤ 15 := by
      have := Oh hn.keys (bs := ws) (fun w hw => by obtain ⟨e, he, rfl⟩ := List.mem_map.1 hw; exact hk e he); rw [List.length_map] at this; omega
    have herr : C9 k.es x.m.from_ = 0 := by
      unfold C9; have := hws _ hx.1; rw [if_neg (by omega), if_neg (by rintro ⟨_, h⟩; omega)]
    have hnear : B9 k.es x.m.from_ = B9 es0 x.m.from_ := by unfold B9; rw [hg x (.head _)]
    have hE : knE me k x = Hy x.m.from_ ((B9 es0 x.m.from_).1, 0) k.clock k.es := by
      unfold knE Jd; rw [if_neg hskip, if_pos herr, hnear]
    have hstep : Hs me k x = ⟨knE me k x, knC me k x, if Eu (B9 es0 x.m.from_).1 x then k.out ++ [x] else k.out⟩ := by
      unfold Hs; rw [hnear]
      congr 1
      by_cases ht : Eu (B9 es0 x.m.from_).1 x
      · rw [if_pos ⟨⟨hskip, herr⟩, ht⟩, if_pos ht]
      · rw [if_neg (fun h => ht h.2), if_neg ht]
    have hp2 : ((pre ++ [x]) ++ l).Pairwise (fun a b => a.m.from_ ≠ b.m.from_) := by simpa using hp
    have hdist : ∀ y ∈ l, y.m.from_ ≠ x.m.from_ := by
      intro y hy e; rw [List.pairwise_append] at hp; exact (List.pairwise_cons.1 hp.2.1).1 y hy e.symm
    have hnf : NearFit (knE me k x) := by
      unfold knE; rw [if_neg hskip]; exact hn.hear _ _
    obtain ⟨r1, r2, r3⟩ := ih (Hs me k x) (pre ++ [x]) hp2 (fun y hy => hl y (.tail _ hy)) (by rw [hstep]; exact hnf) (by
        rw [hstep]; intro e he; have he2 : e ∈ knE me k x := he; rw [hE] at he2; rcases Ai0 he2 with he2 | e2
        · exact hk e he2
        · rw [e2]; exact hx.1)
      (by
        rw [hstep]; dsimp only; split
        · exact List.Sublist.append ho (.refl _)
        · exact ho.trans (List.sublist_append_left _ _))
      (fun y hy => by
        rw [hstep]; show B6 y.m.from_ (knE me k x) = _; rw [hE, Kl (hdist y hy)]
        exact hg y (.tail _ hy))
    have hF : Ah me k (x :: l) = Ah me (Hs me k x) l := rfl; rw [hF]; refine ⟨?_, ?_, ?_⟩
    · rw [r1, hstep]; dsimp only; rw [List.filter_cons]
      by_cases ht : Eu (B9 es0 x.m.from_).1 x
      · rw [if_pos ht, if_pos (decide_eq_true ht), List.append_assoc]; rfl
      · rw [if_neg ht, if_neg (by simpa using ht)]
    · intro y hy; rcases List.mem_cons.1 hy with rfl | hy
      · rw [r3 _ hdist, hstep]; show B6 y.m.from_ (knE me k y) = _; rw [hE, S3]
      · exact r2 y hy
    · intro w hw; rw [r3 w (fun y hy => hw y (.tail _ hy)), hstep]; show B6 w (knE me k x) = _; rw [hE, Kl (fun e => hw x (.head _) e.symm)]
theorem Ab8 {ws : List Int} (hws : ∀ w ∈ ws, 0 ≤ w ∧ w < 48) (hlen : ws.length ≤ 15) {me : Int} {es0 : NT} (hn : NearFit es0) (hk : ∀ e ∈ es0, e.key ∈ ws) (c : Nat) {l : List Hd} (hd : l.Pairwise fun a b => a.m.from_ ≠ b.m.from_) (hl : ∀ x ∈ l, x.m.from_ ∈ ws ∧ x.m.from_ ≠ me) :
    (Ad me es0 c l).out = l.filter (fun h => decide (Eu (B9 es0 h.m.from_).1 h)) ∧ ∀ x ∈ l, 0 < (B9 (Eh 2 (Ad me es0 c l).es) x.m.from_).1 := by
  obtain ⟨r1, r2, _⟩ := Ao0 hws hlen (me := me) (es0 := es0) l ⟨es0, c, []⟩ [] (by simpa using hd) hl hn hk (.refl _) (fun x _ => rfl); refine ⟨by rw [List.nil_append] at r1; exact r1, fun x hx => ?_⟩; have hnf : NearFit (Ad me es0 c l).es := NearFit.known (k := ⟨es0, c, []⟩) hn me l; obtain ⟨e, he, hek, hev⟩ := N4 (r2 x hx); have hq : e.val.2 = 0 := by rw [hev]
  have hg : ¬ Dv 2 e := by unfold Dv; omega
  have hm : Eo 2 e ∈ Eh 2 (Ad me es0 c l).es := by
    unfold Eh; exact List.mem_map.2 ⟨e, List.mem_filter.2 ⟨he, by simpa using hg⟩, rfl⟩
  have hgv := Xc hm (NearFit.tick hnf 2).keys; have hke : (Eo 2 e).key = x.m.from_ := hek; rw [hke] at hgv; unfold B9; rw [hgv]; show 0 < (Eo 2 e).val.1; unfold Eo; dsimp only; rw [if_neg hg, if_pos hq]; have := (hnf.val e he).1; omega
theorem Hist.pos {c : Cs} {nd b : Nat} {us : List PU} {sd : List M} {s : Stp} {t : Int} (h : Hist c nd b us sd s t) : 1 ≤ b := by cases h <;> omega
theorem Bw2 {c : Cs} (hok : c.p.Ok) {nd : Nat} (hnd : nd ≤ 32) : ∀ w ∈ Ak c.p.N.toNat nd, 0 ≤ w ∧ w < 48 := by
  intro w hw; rw [C7] at hw; have := hok.N; omega
theorem La {c : Cs} {nd b : Nat} (hok : c.p.Ok) {us : List PU} {sd : List M} {s : Stp} {t : Int} (h : Hist c nd b us sd s t) {k : Nat} {u : PU} (hk : us[k]? = some u) {age : Nat → Int} {y : M × Int} (hy : y ∈ Br u.qs age 48) : ∃ f : Nat, f < 48 ∧ y.1.from_ = (f : Int) ∧ y ∈ Ex f (age f) (u.qs.getD f []) ∧ (f : Int) ∈ Ak c.p.N.toNat nd ∧ ((f : Int), u.who) ∈ Fq c nd ∧ (f : Int) ≠ u.who ∧ y.1.Ok ∧ y.2 = age f := by
  obtain ⟨us0, t0, h1, h2, h3, h4, h5, h6⟩ := h.last; obtain ⟨f, hf, hr⟩ := L7 hy; have hc := Jr h3 h1 hk hf (age f); have hb : ¬ ((f : Int) ∉ Ak c.p.N.toNat nd ∨ ((f : Int), u.who) ∉ Fq c nd) := fun hx => by rw [hc.1 hx] at hr; cases hr
  have hw : (f : Int) ∈ Ak c.p.N.toNat nd := Classical.byContradiction fun hx => hb (.inl hx); have hl : ((f : Int), u.who) ∈ Fq c nd := Classical.byContradiction fun hx => hb (.inr hx); obtain ⟨q1, q2, q3⟩ := hc.2.2 y hr; exact ⟨f, hf, q1, hr, hw, hl, (Ah8 hok hl).1, q2, q3⟩
theorem Rz {c : Cs} {nd b : Nat} (hok : c.p.Ok) {us : List PU} {sd : List M} {s : Stp} {t : Int} (h : Hist c nd b us sd s t) {k : Nat} {u : PU} (hk : us[k]? = some u) {s' : Stp} {i : Inp} (hi : InpOf c.p s' u.who u.qs i) :
    (i.heard.Pairwise fun a b => a.m.from_ ≠ b.m.from_) ∧ ∀ x ∈ i.heard, x.m.from_ ∈ Ak c.p.N.toNat nd ∧ x.m.from_ ≠ u.who := by
  obtain ⟨us0, t0, h1, h2, h3, h4, h5, h6⟩ := h.last; have hne : (i.heard.map ma).Pairwise fun a b => a.1.from_ ≠ b.1.from_ := by rw [hi.heard]; exact M8 (h3.thin h1 hk) _ 48 (Nat.le_refl _)
  rw [List.pairwise_map] at hne; refine ⟨hne, fun x hx => ?_⟩; have hm : ma x ∈ Br u.qs (Bi c.p u.who s'.ages) 48 := by rw [← hi.heard]; exact List.mem_map_of_mem hx
  obtain ⟨f, _, hf, _, hw, _, hne2, _⟩ := La hok h hk hm; rw [show x.m.from_ = (f : Int) from hf]; exact ⟨hw, hne2⟩
theorem A3z {c : Cs} {nd b : Nat} (hok : c.p.Ok) {us : List PU} {sd : List M} {s : Stp} {t : Int} (h : Hist c nd b us sd s t) : ∀ (k : Nat) (u : PU), us[k]? = some u → ¬ u.who < 16 → Qe (Ak c.p.N.toNat nd) b u.es := by
  induction h with
  | one h1 hfit hb hf ht =>
    intro k u' hk' hw; obtain ⟨u, hu, hwu⟩ := I7 h1 (Hi (Dg hb h1) hk'); obtain ⟨u2, m, hu2, _, hone, _⟩ := hb.one k u hu; rw [hk'] at hu2; injection hu2 with hu2; subst hu2; obtain ⟨i, hi, hbc⟩ := hone.inp; rcases hbc with ⟨hx, _⟩ | ⟨_, clock, tab, _, _, he, _⟩
    · exact absurd (by rw [hwu] at hx; exact hx) hw
    · rw [he]; exact Arx (hfit u (List.mem_of_getElem? hu)).2 _ _ _
  | @next b us0 us sd0 sd s0 s t h0 hfit hb hf ht ih =>
    intro k u' hk' hw; obtain ⟨u, hu, hwu⟩ := I7 h0.whos (Hi (Dg hb h0.whos) hk'); obtain ⟨u2, m, hu2, _, hone, _⟩ := hb.one k u hu; rw [hk'] at hu2; injection hu2 with hu2; subst hu2; obtain ⟨i, hi, hbc⟩ := hone.inp; rcases hbc with ⟨hx, _⟩ | ⟨hx, clock, tab, _, _, he, _⟩
    · exact absurd (by rw [hwu] at hx; exact hx) hw
    · rw [he]; exact A4q h0.pos (hfit u (List.mem_of_getElem? hu)).2 (ih k u hu hx) _ _ fun x hx2 => ((Rz hok h0 hu hi).2 x hx2).1
def knM (es : NT) (y : M × Int) : Prop := (y.1.kind = 1 ∧ y.1.from_ < 16) ∨ (y.1.kind = 2 ∧ 16 ≤ y.1.from_ ∧ 0 < (B9 es y.1.from_).1)
instance (es : NT) (y : M × Int) : Decidable (knM es y) := by unfold knM; infer_instance
theorem Lf {c : Cs} {nd b : Nat} (hok : c.p.Ok) (hnd : nd ≤ 32) (hws : (Ak c.p.N.toNat nd).length ≤ 15) (hb4 : 4 ≤ b) {us us' : List PU} {sd sd' : List M} {s s' : Stp} {t : Int} (h : Hist c nd b us sd s t) (hfit : Ak4 c.p us) (hb : Beats c.p s' (Ak c.p.N.toNat nd) (Fq c nd) us us' sd') {k : Nat} {u u' : PU} {m : M} (hk : us[k]? = some u) (hone : One c.p s' u u' m) (hw : ¬ u.who < 16) :
    ∃ (out : List Hd) (tab : List (Int × Int)), out.map ma = (Br u.qs (Bi c.p u.who s'.ages) 48).filter (fun y => decide (knM u.es y)) ∧ u'.s = Bk (Ay c.p out u.s (Eg c.p u.who s'.ticks) tab) ∧ ∀ x ∈ Br u.qs (Bi c.p u.who s'.ages) 48, 0 < (B9 u'.es x.1.from_).1 := by
  obtain ⟨i, hi, hbc⟩ := hone.inp; rcases hbc with ⟨hx, _⟩ | ⟨_, clock, tab, _, hs, he, _⟩
  · exact absurd hx hw
  · have hf := hfit u (List.mem_of_getElem? hk); obtain ⟨n1, n2⟩ := Rz hok h hk hi; obtain ⟨r1, r2⟩ := Ab8 (Bw2 hok hnd) hws (me := u.who) hf.2 (A42 hb4 (A3z hok h k u hk hw)) clock n1 n2; refine ⟨_, tab, ?_, by rw [← hi.ticks]; exact hs, ?_⟩
    · rw [r1, ← hi.heard, List.filter_map]; rfl
    · intro x hx; rw [← hi.heard] at hx; obtain ⟨y, hy, rfl⟩ := List.mem_map.1 hx; rw [he]; exact r2 y hy
theorem J5 (p : Par) (out : List Hd) (s : Stt) (ticks : Int) (tab : List (Int × Int)) : (Bk (Ay p out s ticks tab)).lo = (Az p (Am p out s ticks tab)).lo ∧ (Bk (Ay p out s ticks tab)).hi = (Az p (Am p out s ticks tab)).hi ∧ (Bk (Ay p out s ticks tab)).held = (Az p (Am p out s ticks tab)).held ∧ (Bk (Ay p out s ticks tab)).hops = (Az p (Am p out s ticks tab)).hops ∧ (Bk (Ay p out s ticks tab)).good = (Az p (Am p out s ticks tab)).good ∧ (Bk (Ay p out s ticks tab)).time = Fb p s ticks (Am p out s ticks tab) ∧ (Bk (Ay p out s ticks tab)).set = true := by
  obtain ⟨a1, a2, a3, a4, a5, a6, a7⟩ := I6 (Ay p out s ticks tab); obtain ⟨b1, b2, b3, b4, b5, b6, b7⟩ := Rc p (Bv p s ticks (Am p out s ticks tab)) out; obtain ⟨c1, c2, c3, c4, c5, c6, c7⟩ := J2 p s ticks (Am p out s ticks tab); unfold Ay at *; exact ⟨a1.trans (b1.trans c1), a2.trans (b2.trans c2), a3.trans (b3.trans c3), a4.trans (b4.trans c4), a5.trans (b5.trans c5), a6.trans (b6.trans c6), a7.trans (b7.trans c7)⟩
def lx (a b : M) : Prop := a.hops < b.hops ∨ a.hops = b.hops ∧ (a.held < b.held ∨ a.held = b.held ∧ a.from_ < b.from_)
theorem Tf (a b : M) : Uv a b < 0 ↔ lx a b := by
  unfold Uv lx Ei Qp
  by_cases h1 : a.hops < b.hops
  · rw [if_pos h1]; simp; omega
  · by_cases h2 : b.hops < a.hops
    · rw [if_neg h1, if_pos h2]; simp; omega
    · rw [if_neg h1, if_neg h2]; unfold Ei
      by_cases h3 : a.held < b.held
      · rw [if_pos h3]; simp; omega
      · by_cases h4 : b.held < a.held
        · rw [if_neg h3, if_pos h4]; simp; omega
        · rw [if_neg h3, if_neg h4]; unfold Ei
          by_cases h5 : a.from_ < b.from_
          · rw [if_pos h5]; simp; omega
          · by_cases h6 : b.from_ < a.from_
            · rw [if_neg h5, if_pos h6]; simp; omega
            · rw [if_neg h5, if_neg h6]; simp [Ei]; omega
theorem choose_spec (p : Par) (l : List Hd) : (B2 p l = none → ∀ h ∈ l, ¬ Cz p h.m) ∧ ∀ b, B2 p l = some b → b ∈ l ∧ Cz p b.m ∧ ∀ h ∈ l, Cz p h.m → ¬ lx h.m b.m := by
  have key : ∀ (l pre : List Hd) (o : Option Hd), ((o = none → ∀ h ∈ pre, ¬ Cz p h.m) ∧ ∀ b, o = some b → b ∈ pre ∧ Cz p b.m ∧ ∀ h ∈ pre, Cz p h.m → ¬ lx h.m b.m) →
      ((l.foldl (H1 p) o = none → ∀ h ∈ pre ++ l, ¬ Cz p h.m) ∧ ∀ b, l.foldl (H1 p) o = some b → b ∈ pre ++ l ∧ Cz p b.m ∧ ∀ h ∈ pre ++ l, Cz p h.m → ¬ lx h.m b.m) := by
    intro l
    induction l with
    | nil => intro pre o h; simpa using h
    | cons x l ih =>
      intro pre o h
      have := ih (pre ++ [x]) (H1 p o x) (by
        unfold H1
        by_cases ht : takes p o x
        · rw [if_pos ht]; refine ⟨(fun hx => by cases hx), fun b hb => ?_⟩; injection hb with hb; subst hb; refine ⟨List.mem_append.2 (.inr (.head _)), ht.1, fun y hy hyu => ?_⟩; rcases List.mem_append.1 hy with hy | hy
          · cases o with
            | none => exact absurd hyu (h.1 rfl y hy)
            | some b0 =>
              have h2 := (h.2 b0 rfl).2.2 y hy hyu; have h3 : lx x.m b0.m := (Tf _ _).1 ht.2; unfold lx at h2 h3 ⊢; omega
          · rw [List.mem_singleton] at hy; subst hy; unfold lx; omega
        · rw [if_neg ht]; refine ⟨fun ho y hy => ?_, fun b hb => ?_⟩
          · rcases List.mem_append.1 hy with hy | hy
            · exact h.1 ho y hy
            · rw [List.mem_singleton] at hy; subst hy; subst ho; exact fun hu => ht ⟨hu, trivial⟩
          · obtain ⟨q1, q2, q3⟩ := h.2 b hb; refine ⟨List.mem_append.2 (.inl q1), q2, fun y hy hyu => ?_⟩; rcases List.mem_append.1 hy with hy | hy
            · exact q3 y hy hyu
            · rw [List.mem_singleton] at hy; subst hy; subst hb
              exact fun hl => ht ⟨hyu, (Tf _ _).2 hl⟩)
      simpa using this
  have := key l [] none ⟨(fun _ h hh => by cases hh), (fun b hb => by cases hb)⟩; rw [List.nil_append] at this; exact this
theorem Rx {p : Par} {l : List Hd} {x : Hd} : x ∈ Ce p l ↔ ∃ y ∈ l, ¬ y.m.shi < y.m.slo ∧ x = Mn p y := by
  have key : ∀ (l : List Hd) (acc : List Hd), x ∈ l.foldl (Ii p) acc ↔ x ∈ acc ∨ ∃ y ∈ l, ¬ y.m.shi < y.m.slo ∧ x = Mn p y := by
    intro l
    induction l with
    | nil => intro acc; simp
    | cons z l ih =>
      intro acc; rw [List.foldl_cons, ih]; unfold Ii
      by_cases hz : z.m.shi < z.m.slo
      · rw [if_pos hz]; refine ⟨fun h => h.imp id fun ⟨y, hy, h2⟩ => ⟨y, .tail _ hy, h2⟩, fun h => h.imp id fun ⟨y, hy, h2⟩ => ?_⟩; rcases List.mem_cons.1 hy with rfl | hy
        · exact absurd hz h2.1
        · exact ⟨y, hy, h2⟩
      · rw [if_neg hz]; constructor
        · rintro (h | ⟨y, hy, h2⟩)
          · rcases List.mem_append.1 h with h | h
            · exact .inl h
            · rw [List.mem_singleton] at h; exact .inr ⟨z, .head _, hz, h⟩
          · exact .inr ⟨y, .tail _ hy, h2⟩
        · rintro (h | ⟨y, hy, h2⟩)
          · exact .inl (List.mem_append.2 (.inl h))
          · rcases List.mem_cons.1 hy with rfl | hy
            · exact .inl (List.mem_append.2 (.inr (by rw [h2.2]; exact .head _)))
            · exact .inr ⟨y, hy, h2⟩
  have := key l []; unfold Ce; exact ⟨fun h => (this.1 h).resolve_left (fun h => by cases h), fun h => this.2 (.inr h)⟩
theorem Q7 {c : Cs} {nd b : Nat} (hok : c.p.Ok) (hnd : nd ≤ 32) {us : List PU} {sd : List M} {s : Stp} {t : Int} (h : Hist c nd b us sd s t) (hb : 2 ≤ b) : ∀ (k : Nat) (u : PU), us[k]? = some u → u.who < 16 → u.s.good = true ∧ u.s.hops = 0 ∧ u.s.held = 0 ∧ Bg ⟨u.s.lo, u.s.hi⟩ t (gN c.p) := by
  cases h with
  | one => omega
  | @next b us0 us sd0 sd s0 s t h0 hfit hbe hf ht =>
    intro k u' hk' hw; obtain ⟨u, hu, hwu⟩ := I7 h0.whos (Hi (Dg hbe h0.whos) hk'); obtain ⟨u2, m, hu2, _, hone, _⟩ := hbe.one k u hu; rw [hk'] at hu2; injection hu2 with hu2; subst hu2; exact Am8 hok hnd h0 hbe hf ht hu hk' hone (by omega)
theorem Oy {p : Par} (hp : p.Ok) (es : NT) (l : List (M × Int)) : M1 p (l.filter fun y => decide (knM es y)) = M1 p l := by
  unfold M1; rw [List.filter_filter]; apply List.filter_congr
  intro y _; rw [Bool.eq_iff_iff, Bool.and_eq_true, decide_eq_true_eq, decide_eq_true_eq]; refine ⟨fun h => h.1, fun h => ⟨h, .inl ⟨h.1.1, ?_⟩⟩⟩; have := h.1.2.2.1; omega
theorem A02 {out : List Hd} {l : List (M × Int)} {q : M × Int → Bool} (hl : l.Pairwise fun a b => a.1.from_ ≠ b.1.from_) (h : out.map ma = l.filter q) : (out.map ma).Pairwise fun a b => a.1.from_ ≠ b.1.from_ := by
  rw [h]; exact List.Pairwise.sublist List.filter_sublist hl
def N8 (c : Cs) (who : Int) : Prop := who - 16 ∈ c.core
theorem Tj {c : Cs} {nd b : Nat} (hok : c.p.Ok) (hnd : nd ≤ 32) (hb : 2 ≤ b) {us : List PU} {sd : List M} {s s' : Stp} {t : Int} (h : Hist c nd b us sd s t) (hf : Fair c.p t s') (ht : TB t) {k : Nat} {u : PU} (hk : us[k]? = some u) (hw : ¬ u.who < 16) (hco : N8 c u.who) {out : List Hd}
    (ho : out.map ma = (Br u.qs (Bi c.p u.who s'.ages) 48).filter (fun y => decide (knM u.es y))) :
    Er c.p out ∧ Bg (Dk c.p.F (Ir c.p out)) (t + c.p.Beat) (gN c.p + Gj c.p) ∧ 0 ≤ Gi c.p.F ((Gx c.p out).map Ci) ∧ Gi c.p.F ((Gx c.p out).map Ci) ≤ 1 := by
  have hN := hok.N; have hF := hok.F; have hB := hok.Beat
  have hgN := Lq hok; have hh := E1 hok; obtain ⟨us0, t0, h1, h2, h3, h4, h5, h6⟩ := h.last; have hthin := h3.thin h1 hk; have hne := M8 hthin (Bi c.p u.who s'.ages) 48 (Nat.le_refl _); obtain ⟨e1, e2⟩ := Ag1 (p := c.p) (A02 hne ho); rw [ho, Oy hok] at e1 e2; have hwm : u.who ∈ Ak c.p.N.toNat nd := List.mem_of_getElem? (Hi h.whos hk); rw [C7] at hwm; have hTB := ht; unfold TB at hTB
  have rows : ∀ f : Nat, (f : Int) < c.p.N - c.p.F → ∃ mf : M, Ex f (Bi c.p u.who s'.ages f) (u.qs.getD f []) = [(mf, Bi c.p u.who s'.ages f)] ∧ (tkM c.p (-1) (mf, Bi c.p u.who s'.ages f) ∧ Km (mf, Bi c.p u.who s'.ages f)) ∧ mf.held = 0 ∧ Bg ⟨mf.slo, mf.shi⟩ t (gN c.p) := by
    intro f hfR
    obtain ⟨u0, v, mf, t1, hv, hvw, hu0w, hmf, honef, hfa, htb, hte, hrow⟩ := Xh hok hnd h hk (f := f) (j := f) (Sr (by omega)) (by omega) (by
        have hc2 : (((u.who - 16).toNat : Nat) : Int) ∈ c.core := by
          rw [Int.toNat_of_nonneg (by omega)]; exact hco
        have := Bb6 (c := c) (nd := nd) hok hnd (i := f) (v := (u.who - 16).toNat) (by omega) (by omega) hc2; rw [Int.toNat_of_nonneg (by omega), show 16 + (u.who - 16) = u.who by omega] at this
        exact this) (.inr hfR) (Bi c.p u.who s'.ages f)
    obtain ⟨g1, g2, g3, g4⟩ := Q7 hok hnd h hb f v hv (by omega); obtain ⟨sa, sk, _⟩ := honef.says; have hfrom : mf.from_ = (f : Int) := sa.from_.trans hvw; have g5 := g4; unfold Bg at g5; dsimp only at g5; refine ⟨mf, hrow, ⟨⟨sk (by omega), ?_, ?_, ?_⟩, ?_, ?_⟩, sa.held.trans g3, ?_⟩
    · show 0 ≤ mf.from_; omega
    · show mf.from_ < min c.p.N 16; omega
    · show mf.from_ ≠ -1; omega
    · show mf.good = true; rw [sa.good]; exact g1
    · show ¬ mf.shi < mf.slo; rw [sa.slo, sa.shi]; omega
    · rw [sa.slo, sa.shi]; exact g4
  have hq2 : ∀ y : M × Int, decide (tkM c.p (-1) y ∧ Km y) = true → 0 ≤ y.1.from_ ∧ y.1.from_ < c.p.N ∧ y.1.from_ ≠ -1 := by
    intro y hy; obtain ⟨⟨_, a1, a2, a3⟩, _⟩ := of_decide_eq_true hy; exact ⟨a1, by omega, a3⟩
  have hfu := Rr hok (me := -1) hthin [] (age := Bi c.p u.who s'.ages) (q := fun y => decide (tkM c.p (-1) y ∧ Km y)) (g := Blq c.p) (t := t + c.p.Beat) (r := gN c.p + Gj c.p) (by omega) (by omega) (fun f hfR _ => by
      obtain ⟨mf, hrow, hq, _, htr⟩ := rows f hfR
      exact ⟨_, hrow, decide_eq_true hq, Ns hok (by omega) (by omega) htr (hf.age hok u.who f)⟩) hq2 ⟨fun hc => by omega, fun _ => rfl⟩
  rw [List.nil_append] at hfu; unfold M1 at e1 e2; rw [← e1] at hfu; refine ⟨hfu.1, hfu.2, ?_⟩
  have hm := mixed (D := Lt (fun y => decide (tkM c.p (-1) y ∧ Km y)) (fun y => (⟨y.1.held, 0⟩ : Sp)) u.qs (Bi c.p u.who s'.ages)) (P := fun s => decide (s.lo ≤ 0)) (N := c.p.N.toNat) (R := (c.p.N - c.p.F).toNat) (me := -1) (by omega) (fun f hf2 _ => by
      obtain ⟨mf, hrow, hq, hhe, _⟩ := rows f (by omega)
      exact ⟨_, Tu hrow (decide_eq_true hq), by show decide (mf.held ≤ 0) = true; rw [hhe]; decide⟩)
    (fun f hf2 he => by omega) (fun f hf2 hf3 => Xu hthin _ _ _ (by omega)) (fun f hf2 hf3 => Oa fun y hy => by
      refine Bool.eq_false_iff.2 fun hq => ?_; have h9 := (Ey hy).1; have := (hq2 y hq).2.1
      omega) 48 (Nat.le_refl _)
  rw [← Xv] at hm; obtain ⟨hbad, hlen⟩ := hm; rw [e2]; generalize hL : (Br u.qs (Bi c.p u.who s'.ages) 48).filter (fun y => decide (tkM c.p (-1) y ∧ Km y)) = L at hbad hlen ⊢; rw [List.length_map] at hlen
  have hnn : ∀ y ∈ L, 0 ≤ y.1.held := by
    intro y hy; rw [← hL] at hy; obtain ⟨f, _, _, _, _, _, _, hok2, _⟩ := La hok h hk (List.mem_filter.1 hy).1; exact hok2.1.2.2.2.1.1
  obtain ⟨F, hFe⟩ : ∃ F : Nat, c.p.F = (F : Int) := ⟨c.p.F.toNat, by omega⟩
  have hlen2 : 2 * F + 1 ≤ L.length := by
    split at hlen <;> omega
  have hlo : Bt c.p.F (L.map fun y => y.1.held) := by unfold Bt; rw [List.length_map]; omega
  have hcount : F + 1 ≤ (L.map fun y => y.1.held).countP (fun x => decide (x ≤ 0)) := by
    rw [List.countP_map] at hbad; rw [List.countP_map]; have := List.length_eq_countP_add_countP (fun y : M × Int => decide (y.1.held ≤ 0)) (l := L)
    have e : L.countP ((fun s => !decide (s.lo ≤ 0)) ∘ fun y : M × Int => (⟨y.1.held, 0⟩ : Sp)) = L.countP (fun a => decide (¬ (decide (a.1.held ≤ 0) = true))) := by
      congr 1
      funext a
      show (!decide (a.1.held ≤ 0)) = _; cases decide (a.1.held ≤ 0) <;> rfl
    have e2 : L.countP ((fun x => decide (x ≤ 0)) ∘ fun y : M × Int => y.1.held) = L.countP (fun y => decide (y.1.held ≤ 0)) := rfl; omega
  have hle : Di c.p.F (L.map fun y => y.1.held) ≤ 0 := by
    unfold Di; rw [if_pos hlo, hFe]; exact Abq (by rw [List.length_map]; omega) hcount
  have hge : 0 ≤ Di c.p.F (L.map fun y => y.1.held) := by
    unfold Di; rw [if_pos hlo, hFe]; refine Ab9 (by rw [List.length_map]; omega) ?_
    have : (L.map fun y => y.1.held).countP (fun x => decide (x < 0)) = 0 := by
      rw [List.countP_eq_zero]; intro x hx; obtain ⟨y, hy, rfl⟩ := List.mem_map.1 hx; have := hnn y hy; simp only [decide_eq_true_eq]; omega
    omega
  unfold Gi; rw [if_pos hlo]; have e0 : Di c.p.F (L.map fun y => y.1.held) = 0 := by omega
  rw [e0]
  decide
theorem Qu {c : Cs} {nd b : Nat} (hok : c.p.Ok) {us : List PU} {sd : List M} {s s' : Stp} {t : Int} (h : Hist c nd b us sd s t) {k : Nat} {u : PU} (hk : us[k]? = some u) (hw : ¬ u.who < 16) (hco : ¬ N8 c u.who) {out : List Hd}
    (ho : out.map ma = (Br u.qs (Bi c.p u.who s'.ages) 48).filter (fun y => decide (knM u.es y))) : ¬ Er c.p out := by
  have hN := hok.N; have hF := hok.F; obtain ⟨us0, t0, h1, h2, h3, h4, h5, h6⟩ := h.last; have hthin := h3.thin h1 hk; have hne := M8 hthin (Bi c.p u.who s'.ages) 48 (Nat.le_refl _); obtain ⟨e1, _⟩ := Ag1 (p := c.p) (A02 hne ho); rw [ho, Oy hok] at e1
  have hnil : M1 c.p (Br u.qs (Bi c.p u.who s'.ages) 48) = [] := by
    unfold M1; rw [List.filter_eq_nil_iff]; intro y hy hq; obtain ⟨⟨_, a1, a2, a3⟩, _⟩ := of_decide_eq_true hq; obtain ⟨f, _, hf2, _, _, hl, _⟩ := La hok h hk hy; have := (Ah8 hok hl).2.2.2; dsimp only at this; exact hco (this (by omega) (by omega))
  rw [hnil] at e1; intro hc; unfold Er at hc; rw [e1] at hc; have := hc.1; unfold I0 at this; simp only [List.map_nil, List.length_nil] at this; omega
theorem X3 {h : Int} (hh : 0 ≤ h ∧ h ≤ 1073741823) : De h = h + 1 := by
  unfold De; rw [Tc (by omega) (by decide) (by omega)]; exact Ms (by omega)
theorem Kt (h : Int) : 0 ≤ De h ∧ De h ≤ 1073741824 := Hl _ _ _ (by decide)
theorem W7 {c : Cs} {nd b : Nat} (hok : c.p.Ok) (hnd : nd ≤ 32) {us : List PU} {sd : List M} {s s' : Stp} {t : Int} (h : Hist c nd b us sd s t) {k : Nat} {u : PU} (hk : us[k]? = some u) {out : List Hd}
    (ho : out.map ma = (Br u.qs (Bi c.p u.who s'.ages) 48).filter (fun y => decide (knM u.es y))) {x : Hd} (hx : x ∈ Ce c.p out) (hu : Cz c.p x.m) :
    ∃ (j : Nat) (v : PU) (m : M) (f : Nat), us[j]? = some v ∧ v.who = (f : Int) ∧ 16 ≤ (f : Int) ∧ ((f : Int), u.who) ∈ Fq c nd ∧ m.from_ = (f : Int) ∧ Says v m ∧ (m, Bi c.p u.who s'.ages f) ∈ Br u.qs (Bi c.p u.who s'.ages) 48 ∧
      x.m = { m with slo := (way c.p ⟨m.slo, m.shi⟩ (Bi c.p u.who s'.ages f)).lo, shi := (way c.p ⟨m.slo, m.shi⟩ (Bi c.p u.who s'.ages f)).hi } := by
  obtain ⟨y, hy, hy2, rfl⟩ := Rx.1 hx; have hm : ma y ∈ (Br u.qs (Bi c.p u.who s'.ages) 48).filter (fun y => decide (knM u.es y)) := by rw [← ho]; exact List.mem_map_of_mem hy
  obtain ⟨hm1, hm2⟩ := List.mem_filter.1 hm; have hkn := of_decide_eq_true hm2; have hkind : y.m.kind = 2 := hu.1
  have h16 : 16 ≤ y.m.from_ := by
    rcases hkn with ⟨h1, _⟩ | ⟨_, h2, _⟩
    · have h1' : y.m.kind = 1 := h1; omega
    · exact h2
  obtain ⟨f, hf48, hf, hrow, hw, hl, hne, _, hage⟩ := La hok h hk hm1; have hf' : y.m.from_ = (f : Int) := hf; obtain ⟨j, hj⟩ := List.getElem?_of_mem hw; obtain ⟨u0, v, m, t1, hv, hvw, hu0w, hmf, honef, hfa, htb, hte, hrow2⟩ := Xh hok hnd h hk (f := f) (j := j) hj hf48 hl (.inl (by omega)) (Bi c.p u.who s'.ages f); rw [hrow2, List.mem_singleton] at hrow; obtain ⟨sa, _⟩ := honef.says; have e1 : y.m = m := congrArg Prod.fst hrow; have e2 : y.age = Bi c.p u.who s'.ages f := congrArg Prod.snd hrow; refine ⟨j, v, m, f, hv, hvw, by omega, hl, sa.from_.trans hvw, sa, by rw [← hrow]; exact hm1, ?_⟩; obtain ⟨ym, yA, yc, ya⟩ := y; dsimp only at e1 e2; subst e1; subst e2; rfl
theorem Lg {c : Cs} (hok : c.p.Ok) (out : List Hd) (s : Stt) (ticks : Int) (tab : List (Int × Int)) {u' : Stt} (hs : u' = Bk (Ay c.p out s ticks tab)) {t r : Int} (hr : 0 ≤ r ∧ r ≤ 100000000000000000) (ht : -4503599627370496 ≤ t ∧ t ≤ 4503599627370496) (hc : Er c.p out → Bg (Dk c.p.F (Ir c.p out)) t r) (hh : 0 ≤ Gi c.p.F ((Gx c.p out).map Ci) ∧ Gi c.p.F ((Gx c.p out).map Ci) ≤ 1073741824) :
    (Er c.p out → u'.good = true ∧ u'.hops = 0 ∧ u'.lo = (Dk c.p.F (Ir c.p out)).lo ∧ u'.hi = (Dk c.p.F (Ir c.p out)).hi ∧ u'.held = Gi c.p.F ((Gx c.p out).map Ci)) ∧
    (¬ Er c.p out → ∀ x, B2 c.p (Ce c.p out) = some x → u'.good = true ∧ u'.hops = x.m.hops + 1 ∧ u'.lo = x.m.slo ∧ u'.hi = x.m.shi ∧ u'.held = De x.m.held) ∧
    (¬ Er c.p out → B2 c.p (Ce c.p out) = none → u'.good = false ∧ u'.hops = c.p.D + 1) := by
  obtain ⟨q1, q2, q3, q4, q5, _⟩ := J5 c.p out s ticks tab; rw [← hs] at q1 q2 q3 q4 q5; have hD := hok.D; refine ⟨fun hco => ?_, fun hco x hx => ?_, fun hco hx => ?_⟩
  · have hn : Am c.p out s ticks tab = Mz c.p out s tab := by
      unfold Am Kv; rw [if_pos (.inl hco), if_pos hco]
    have htr := hc hco; unfold Bg at htr
    have hf5 : Qa c.p (Am c.p out s ticks tab) := by
      rw [hn]; unfold Qa Mz; dsimp only; omega
    obtain ⟨f1, f2, f3, f4, f5⟩ := Kx hok hf5; rw [hn] at f1 f2 f3 f4 f5 q1 q2 q3 q4 q5; exact ⟨q5.trans f5, q4.trans f4, q1.trans f1, q2.trans f2, q3.trans f3⟩
  · have hfo : O2 c.p out := by unfold O2; rw [hx]; rfl
    have hn : Am c.p out s ticks tab = Ej s x := by
      unfold Am Kv Ek; rw [if_pos (.inr hfo), if_neg hco, hx]
    obtain ⟨hmem, hus, _⟩ := (choose_spec c.p (Ce c.p out)).2 x hx; obtain ⟨y, _, _, rfl⟩ := Rx.1 hmem; obtain ⟨_, _, h0, h1, h2⟩ := hus; have hr1 : -2305843009213693952 ≤ (Mn c.p y).m.slo := (Ff _).1; have hr2 : (Mn c.p y).m.shi ≤ 2305843009213693952 := (Ff _).2; have hmh := Kt (Mn c.p y).m.held
    have hf5 : Qa c.p (Am c.p out s ticks tab) := by
      rw [hn]; unfold Qa Ej; dsimp only; omega
    obtain ⟨f1, f2, f3, f4, f5⟩ := Kx hok hf5; rw [hn] at f1 f2 f3 f4 f5 q1 q2 q3 q4 q5; exact ⟨q5.trans f5, q4.trans f4, q1.trans f1, q2.trans f2, q3.trans f3⟩
  · have hfo : ¬ O2 c.p out := by unfold O2; rw [hx]; exact fun h => by cases h
    have hn : Am c.p out s ticks tab = Ah9 c.p s ticks := by
      unfold Am; rw [if_neg (fun h => h.elim hco hfo)]
    rw [hn] at q4 q5; refine ⟨?_, ?_⟩
    · rw [q5]; unfold Az Ah9; dsimp only; split <;> rfl
    · rw [q4]; show Bc (c.p.D + 1) 0 (Bb [c.p.D, 1]) = c.p.D + 1; rw [Tc hD.1 (by decide) (by omega)]; exact Ms (by omega)
def Bm1 (c : Cs) (b : Nat) (us : List PU) (t : Int) : Prop := ∀ (k : Nat) (u : PU), us[k]? = some u → ¬ u.who < 16 → (u.s.good = true → 0 ≤ u.s.hops ∧ u.s.hops ≤ c.p.D) ∧ (u.s.good = false → u.s.hops = c.p.D + 1) ∧ (u.s.good = true → u.s.hops ≤ (b : Int) - 5 → Bg ⟨u.s.lo, u.s.hi⟩ t (rN c.p u.s.hops) ∧ 0 ≤ u.s.held ∧ u.s.held ≤ u.s.hops + 1)
theorem Bgx {p : Par} (hp : p.Ok) {h : Int} (hh : 0 ≤ h ∧ h ≤ 17) : 0 ≤ rN p h ∧ rN p h ≤ 23089744183296 ∧ rN p (h + 1) = rN p h + Gj p := by
  have h1 := E1 hp; have h2 := Lq hp; have e1 : 0 ≤ (h + 1) * Gj p := Int.mul_nonneg (by omega) h1.1; have e2 : (h + 1) * Gj p ≤ 18 * 1099511627776 := Int.mul_le_mul (by omega) h1.2 h1.1 (by decide); unfold rN; refine ⟨by omega, by omega, ?_⟩; rw [Int.add_mul (h + 1) 1, Int.one_mul]; omega
theorem Tx {c : Cs} {nd b : Nat} (hok : c.p.Ok) (hnd : nd ≤ 32) (hws : (Ak c.p.N.toNat nd).length ≤ 15) {us : List PU} {sd : List M} {s : Stp} {t : Int} (h : Hist c nd b us sd s t) : 5 ≤ b → Bm1 c b us t := by
  induction h with
  | one => intro hb; omega
  | @next b us0 us sd0 sd s0 s t h0 hfit hbe hf ht ih =>
    intro hb k u' hk' hw'; have hB := hok.Beat; have hD := hok.D; have hTB := ht; unfold TB at hTB; have hgN := Lq hok; have hhN := E1 hok; obtain ⟨u, hu, hwu⟩ := I7 h0.whos (Hi (Dg hbe h0.whos) hk'); obtain ⟨u2, m, hu2, _, hone, _⟩ := hbe.one k u hu; rw [hk'] at hu2; injection hu2 with hu2; subst hu2; have hw : ¬ u.who < 16 := by rw [hwu]; exact hw'
    obtain ⟨out, tab, ho, hs, _⟩ := Lf hok hnd hws (by omega) h0 hfit hbe hu hone hw
    by_cases hco : N8 c u.who
    · obtain ⟨hc1, hc2, hc3, hc4⟩ := Tj hok hnd (by omega) h0 hf ht hu hw hco ho; obtain ⟨g1, g2, g3, g4, g5⟩ := (Lg hok out u.s _ tab hs (by omega) (by omega) (fun _ => hc2) ⟨hc3, by omega⟩).1 hc1; refine ⟨fun _ => by omega, (fun hg => by rw [g1] at hg; cases hg), fun _ _ => ?_⟩; have e : rN c.p u'.s.hops = gN c.p + Gj c.p := by rw [g2]; unfold rN; omega
      rw [e, g3, g4, g5, g2]; exact ⟨hc2, hc3, by omega⟩
    · have hnc := Qu hok h0 hu hw hco ho
      have hhv : 0 ≤ Gi c.p.F ((Gx c.p out).map Ci) ∧ Gi c.p.F ((Gx c.p out).map Ci) ≤ 1073741824 := by
        unfold Gi; split
        · exact Kt _
        · decide
      obtain ⟨_, w2, w3⟩ := Lg hok out u.s _ tab hs (t := 0) (r := 0) (by decide) (by decide) (fun hx => absurd hx hnc) hhv
      cases hch : B2 c.p (Ce c.p out) with
      | none =>
        obtain ⟨g1, g2⟩ := w3 hnc hch; exact ⟨(fun hg => by rw [g1] at hg; cases hg), fun _ => g2, (fun hg => by rw [g1] at hg; cases hg)⟩
      | some x =>
        obtain ⟨g1, g2, g3, g4, g5⟩ := w2 hnc x hch; obtain ⟨hmem, hus, _⟩ := (choose_spec c.p (Ce c.p out)).2 x hch; obtain ⟨j, v, mv, f, hv, hvw, hf16, hl, hfr, sa, _, hxm⟩ := W7 hok hnd h0 hu ho hmem hus; have hxh : x.m.hops = v.s.hops := by rw [hxm]; exact sa.hops
        have hxg : v.s.good = true := by rw [← sa.good]; have := hus.2.1; rw [hxm] at this; exact this
        have h0x := hus.2.2.1; have h1x := hus.2.2.2.1; refine ⟨fun _ => by omega, (fun hg => by rw [g1] at hg; cases hg), fun _ hle => ?_⟩; have hb5 : 5 ≤ b := by omega
        obtain ⟨_, _, tr⟩ := ih hb5 j v hv (by omega); obtain ⟨t1, t2, t3⟩ := tr hxg (by omega); obtain ⟨r1, r2, r3⟩ := Bgx hok (h := v.s.hops) (by omega); have hway := Ns hok (by omega) (by omega) t1 (hf.age hok u.who f); have e1 : u'.s.hops = v.s.hops + 1 := by omega
        have e2 : u'.s.held = v.s.held + 1 := by
          rw [g5, hxm]; show De mv.held = _; rw [sa.held]; exact X3 (by omega)
        refine ⟨?_, by omega, by omega⟩; rw [e1, r3, g3, g4, hxm]; dsimp only; rw [sa.slo, sa.shi]; exact hway
theorem Tp {qs : Qs} {age : Nat → Int} {f : Nat} (hf : f < 48) {y : M × Int} (h : y ∈ Ex f (age f) (qs.getD f [])) : y ∈ Br qs age 48 := by
  unfold Br; exact List.mem_flatMap.2 ⟨f, List.mem_range.2 hf, h⟩
theorem A89 {c : Cs} {nd b : Nat} (hok : c.p.Ok) (hnd : nd ≤ 32) (hws : (Ak c.p.N.toNat nd).length ≤ 15) {us : List PU} {sd : List M} {s : Stp} {t : Int} (h : Hist c nd b us sd s t) (hb : 5 ≤ b) {k : Nat} {u' : PU} (hk' : us[k]? = some u') (hw' : ¬ u'.who < 16) {f j : Nat} (hj : (Ak c.p.N.toNat nd)[j]? = some (f : Int)) (hf : f < 48) (hf16 : 16 ≤ (f : Int)) (hl : ((f : Int), u'.who) ∈ Fq c nd) : 0 < (B9 u'.es (f : Int)).1 := by
  cases h with
  | one => omega
  | @next b us0 us sd0 sd s0 s t h0 hfit hbe hf0 ht =>
    obtain ⟨u, hu, hwu⟩ := I7 h0.whos (Hi (Dg hbe h0.whos) hk'); obtain ⟨u2, m, hu2, _, hone, _⟩ := hbe.one k u hu; rw [hk'] at hu2; injection hu2 with hu2; subst hu2; obtain ⟨out, tab, _, _, hcnt⟩ := Lf hok hnd hws (by omega) h0 hfit hbe hu hone (by rw [hwu]; exact hw'); obtain ⟨u0, v, mf, t1, hv, hvw, hu0w, hmf, honef, _, _, _, hrow⟩ := Xh hok hnd h0 hu hj hf (by rw [hwu]; exact hl) (.inl hf16) (Bi c.p u.who s.ages f); have := hcnt (mf, Bi c.p u.who s.ages f) (Tp hf (by rw [hrow]; exact .head _)); obtain ⟨sa, _⟩ := honef.says; rw [show (mf, Bi c.p u.who s.ages f).1.from_ = (f : Int) from sa.from_.trans hvw] at this; exact this
theorem Ap6 {c : Cs} {nd : Nat} (hok : c.p.Ok) (hnd : nd ≤ 32) (hws : (Ak c.p.N.toNat nd).length ≤ 15) {k v : Nat} (hn : Near c nd k v) : ∀ {b : Nat} {us : List PU} {sd : List M} {s : Stp} {t : Int}, Hist c nd b us sd s t → 5 + k ≤ b → (k : Int) ≤ c.p.D → ∀ (i : Nat) (u : PU), us[i]? = some u → u.who = 16 + (v : Int) → u.s.good = true ∧ u.s.hops ≤ (k : Int) := by
  have hB := hok.Beat; have hD := hok.D; have hgN := Lq hok; have hhN := E1 hok
  have hcore : ∀ {b : Nat} {us us' : List PU} {sd sd' : List M} {s s' : Stp} {t : Int}, Hist c nd b us sd s t → 4 ≤ b → Ak4 c.p us → Beats c.p s' (Ak c.p.N.toNat nd) (Fq c nd) us us' sd' → Fair c.p t s' → TB t → ∀ (i : Nat) (u u' : PU) (m : M), us[i]? = some u → One c.p s' u u' m → ¬ u.who < 16 → N8 c u.who → u'.s.good = true ∧ u'.s.hops = 0 := by
    intro b us us' sd sd' s s' t h0 hb4 hfit hbe hf ht i u u' m hu hone hw hco; have hTB := ht; unfold TB at hTB; obtain ⟨out, tab, ho, hs, _⟩ := Lf hok hnd hws hb4 h0 hfit hbe hu hone hw; obtain ⟨hc1, hc2, hc3, hc4⟩ := Tj hok hnd (by omega) h0 hf ht hu hw hco ho; obtain ⟨g1, g2, _⟩ := (Lg hok out u.s _ tab hs (by omega) (by omega) (fun _ => hc2) ⟨hc3, by omega⟩).1 hc1; exact ⟨g1, g2⟩
  induction hn with
  | @core v hv hc =>
    intro b us sd s t h hb hk i u' hi' hw'
    cases h with
    | one => omega
    | @next b us0 us sd0 sd s0 s t h0 hfit hbe hf ht =>
      obtain ⟨u, hu, hwu⟩ := I7 h0.whos (Hi (Dg hbe h0.whos) hi'); obtain ⟨u2, m, hu2, _, hone, _⟩ := hbe.one i u hu; rw [hi'] at hu2; injection hu2 with hu2; subst hu2; obtain ⟨g1, g2⟩ := hcore h0 (by omega) hfit hbe hf ht i u u' m hu hone (by omega) (by unfold N8; rw [show u.who - 16 = (v : Int) by omega]; exact hc); exact ⟨g1, by omega⟩
  | @way k w v hn hv hl ih =>
    intro b us sd s t h hb hk i u' hi' hw'
    cases h with
    | one => omega
    | @next b us0 us sd0 sd s0 s t h0 hfit hbe hf ht =>
      have hTB := ht; unfold TB at hTB
      by_cases hvw : w = v
      · subst hvw; obtain ⟨g1, g2⟩ := ih (Hist.next h0 hfit hbe hf ht) (by omega) (by omega) i u' hi' hw'; exact ⟨g1, by omega⟩
      · obtain ⟨u, hu, hwu⟩ := I7 h0.whos (Hi (Dg hbe h0.whos) hi'); obtain ⟨u2, m, hu2, _, hone, _⟩ := hbe.one i u hu; rw [hi'] at hu2; injection hu2 with hu2; subst hu2; have huw : u.who = 16 + (v : Int) := by omega
        by_cases hco : N8 c u.who
        · obtain ⟨g1, g2⟩ := hcore h0 (by omega) hfit hbe hf ht i u u' m hu hone (by omega) hco; exact ⟨g1, by omega⟩
        · obtain ⟨out, tab, ho, hs, _⟩ := Lf hok hnd hws (by omega) h0 hfit hbe hu hone (by omega); have hnc := Qu hok h0 hu (by omega) hco ho
          have hhv : 0 ≤ Gi c.p.F ((Gx c.p out).map Ci) ∧ Gi c.p.F ((Gx c.p out).map Ci) ≤ 1073741824 := by
            unfold Gi; split
            · exact Kt _
            · decide
          obtain ⟨_, w2, _⟩ := Lg hok out u.s _ tab hs (t := 0) (r := 0) (by decide) (by decide) (fun hx => absurd hx hnc) hhv; have hwnd : w < nd := by cases hn <;> assumption
          have hN := hok.N
          have hlk : (((16 + w : Nat) : Int), u.who) ∈ Fq c nd := by
            have := Bb8 (c := c) hnd hwnd hv hvw hl; rw [huw]; have e : ((16 + w : Nat) : Int) = 16 + (w : Int) := by omega
            rw [e]; exact this
          have hj : (Ak c.p.N.toNat nd)[c.p.N.toNat + w]? = some ((16 + w : Nat) : Int) := by
            have := Zb (N := c.p.N.toNat) hwnd; rw [this]
            congr 1
          obtain ⟨u0, vv, mf, t1, hv2, hvw2, hu0w, hmf, honef, _, _, _, hrow⟩ := Xh hok hnd h0 hu (f := 16 + w) hj (by omega) hlk (.inl (by omega)) (Bi c.p u.who s.ages (16 + w)); obtain ⟨sa, _, sk2⟩ := honef.says; obtain ⟨i1, i2⟩ := ih h0 (by omega) (by omega) _ vv hv2 (by rw [hvw2]; omega); obtain ⟨n1, _, n3⟩ := Tx hok hnd hws h0 (by omega) _ vv hv2 (by rw [hvw2]; omega); have n1' := n1 i1; obtain ⟨tr, _, _⟩ := n3 i1 (by omega); have hcnt := A89 hok hnd hws h0 (by omega) hu (by omega) (f := 16 + w) hj (by omega) (by omega) hlk; have hfrom : mf.from_ = ((16 + w : Nat) : Int) := sa.from_.trans hvw2
          have hmem : (mf, Bi c.p u.who s.ages (16 + w)) ∈ out.map ma := by
            rw [ho]; refine List.mem_filter.2 ⟨Tp (f := 16 + w) (by omega) (by rw [hrow]; exact .head _), decide_eq_true (.inr ⟨sk2 (by omega), ?_, ?_⟩)⟩
            · show 16 ≤ mf.from_; omega
            · show 0 < (B9 u.es mf.from_).1; rw [hfrom]; exact hcnt
          obtain ⟨hd, hhd, hma⟩ := List.mem_map.1 hmem; have e1 : hd.m = mf := congrArg Prod.fst hma; have e2 : hd.age = Bi c.p u.who s.ages (16 + w) := congrArg Prod.snd hma; obtain ⟨r1, r2, r3⟩ := Bgx hok (h := vv.s.hops) (by omega); have hwt := Ns hok (by omega) (by omega) tr (hf.age hok u.who (16 + w)); have tr2 := tr; unfold Bg at tr2 hwt; dsimp only at tr2; have hx : Mn c.p hd ∈ Ce c.p out := Rx.2 ⟨hd, hhd, by rw [e1, sa.slo, sa.shi]; omega, rfl⟩
          have hus : Cz c.p (Mn c.p hd).m := by
            refine ⟨?_, ?_, ?_, ?_, ?_⟩
            · show hd.m.kind = 2; rw [e1]; exact sk2 (by omega)
            · show hd.m.good = true; rw [e1, sa.good]; exact i1
            · show 0 ≤ hd.m.hops; rw [e1, sa.hops]; omega
            · show hd.m.hops < c.p.D; rw [e1, sa.hops]; omega
            · show ¬ (way c.p ⟨hd.m.slo, hd.m.shi⟩ hd.age).hi < (way c.p ⟨hd.m.slo, hd.m.shi⟩ hd.age).lo; rw [e1, e2, sa.slo, sa.shi]; omega
          obtain ⟨ch1, ch2⟩ := choose_spec c.p (Ce c.p out)
          cases hch : B2 c.p (Ce c.p out) with
          | none => exact absurd hus (ch1 hch _ hx)
          | some x =>
            obtain ⟨_, _, best⟩ := ch2 x hch; have hb := best _ hx hus; obtain ⟨g1, g2, _⟩ := w2 hnc x hch; have hh : (Mn c.p hd).m.hops = vv.s.hops := by show hd.m.hops = _; rw [e1, sa.hops]
            refine ⟨g1, ?_⟩; unfold lx at hb
            push_cast
            omega
theorem Um {p : Par} {s : Stp} {u u' : PU} {m : M} (h : One p s u u' m) : ∃ nx, u'.s.time = Fb p u.s (Eg p u.who s.ticks) nx ∧ u'.s.lo = (Az p nx).lo ∧ u'.s.hi = (Az p nx).hi ∧ u'.s.held = (Az p nx).held ∧ u'.s.good = (Az p nx).good ∧ u'.s.set = true := by
  obtain ⟨i, hi, hbc⟩ := h.inp; rcases hbc with ⟨_, hs, _, _⟩ | ⟨_, clock, tab, _, hs, _, _⟩
  · obtain ⟨f1, f2, f3, f4, f5, f6, f7⟩ := J2 p u.s i.ticks (Bz p u.who u.s i); obtain ⟨a1, a2, a3, a4, a5, a6, a7⟩ := I6 (Ch p u.who u.s i); rw [← hs] at a1 a2 a3 a4 a5 a6 a7; rw [← hi.ticks]; exact ⟨_, a6.trans f6, a1.trans f1, a2.trans f2, a3.trans f3, a5.trans f5, a7.trans f7⟩
  · obtain ⟨a1, a2, a3, a4, a5, a6, a7⟩ := J5 p (Ad u.who u.es clock i.heard).out u.s i.ticks tab; rw [← hs] at a1 a2 a3 a4 a5 a6 a7; rw [← hi.ticks]; exact ⟨_, a6, a1, a2, a3, a5, a7⟩
theorem A23 {p : Par} {nx : Stt} (h : (Az p nx).good = true) : Sp.mid ⟨nx.lo, nx.hi⟩ = ((Az p nx).lo + (Az p nx).hi) / 2 := by
  unfold Az at h ⊢; dsimp only at h ⊢
  by_cases he : Aj nx.hi < Aj nx.lo
  · rw [if_pos he] at h; cases h
  · rw [if_neg he, if_neg he]; rfl
theorem Bj3 {p : Par} (hp : p.Ok) {h : Int} (hh : Bc h 0 1073741824 ≤ p.Hold) : far p h = 2 * C5 p p.Hold p.D := by
  have h4 := hp.Hold; have h5 := hp.D; have hle : h ≤ p.Hold := by unfold Bc at hh; split at hh; omega; split at hh <;> omega
  have e : Dc [h, p.Hold] = p.Hold := by
    unfold Dc; have := Bo h; have hc : Aj h ≤ p.Hold := by rw [K5]; split; omega; split <;> omega
    show max (max (-2305843009213693952) (Aj h)) (Aj p.Hold) = p.Hold; rw [Ap (x := p.Hold) (by omega)]; omega
  obtain ⟨e1, e2⟩ := Ss hp (h := p.Hold) (k := p.D) (by omega) (by omega); have hw := Hb hp (held := p.Hold) (hops := p.D) (by omega) (by omega); have h6 := E1 hp; have h7 := Lq hp; have e3 : (p.D + 1) * Gj p ≤ 18 * 1099511627776 := Int.mul_le_mul (by omega) h6.2 h6.1 (by decide); unfold far; rw [e]; exact I2 (by decide) (by omega) (by omega)
theorem Ar1 {p : Par} (hp : p.Ok) {s : Stt} {ticks : Int} {nx : Stt} {t r : Int} (hg : (Az p nx).good = true) (htr : Bg ⟨(Az p nx).lo, (Az p nx).hi⟩ (t + p.Beat) r) (hr : 0 ≤ r ∧ r ≤ 100000000000000) (hh : (Az p nx).held ≤ p.Hold) (ht : TB t) (htk : p.Beat - p.Rho ≤ ticks ∧ ticks ≤ p.Beat + p.Rho) (hW : C5 p p.Hold p.D ≤ 100000000000000) (I : -2305843009213693952 ≤ s.time ∧ s.time ≤ 2305843009213693952) :
    (-(r + 2 * C5 p p.Hold p.D) ≤ Fb p s ticks nx - (t + p.Beat) ∧ Fb p s ticks nx - (t + p.Beat) ≤ r + 2 * C5 p p.Hold p.D) ∧
    ∀ E : Int, E ≤ 1000000000000000 → -E ≤ s.time - t → s.time - t ≤ E → -(max r (E - (p.Mu - p.Rho))) ≤ Fb p s ticks nx - (t + p.Beat) ∧ Fb p s ticks nx - (t + p.Beat) ≤ max r (E - (p.Mu - p.Rho)) := by
  have hB := hp.Beat; have hRho := hp.Rho; have hMu := hp.Mu; have hw := Hb hp (held := p.Hold) (hops := p.D) (by have := hp.Hold; have := hp.D; omega) hp.D.1; unfold TB at ht; have hfar := Bj3 hp (h := nx.held) hh; have hmid := A23 hg; unfold Bg at htr; dsimp only at htr; generalize hwd : C5 p p.Hold p.D = wd at *; generalize hM : Sp.mid ⟨nx.lo, nx.hi⟩ = mid at hmid; have hm1 : t + p.Beat - r ≤ mid ∧ mid ≤ t + p.Beat + r := by rw [hmid]; omega
  unfold Fb; rw [hM]; unfold Pn
  by_cases hj : decide (Rq p s ticks nx) = true ∨ s.set = false
  · rw [if_pos hj, Ap (by omega)]; refine ⟨by omega, fun E _ _ _ => by omega⟩
  · rw [if_neg hj]; have hnj : ¬ Rq p s ticks nx := fun hx => hj (.inl (decide_eq_true hx)); unfold Rq at hnj; rw [hfar, hM] at hnj; have hX := Ff [s.time, ticks]; generalize hXe : Bb [s.time, ticks] = X at hnj hX ⊢
    have hmag : mag (sub mid X) ≤ 2 * wd := by
      refine Classical.byContradiction fun hc => hnj (.inr (by omega))
    have hsubv : sub mid X = Aj (mid - X) := by unfold sub; rw [Ap (x := mid) (by omega), Ap (x := X) (by omega)]
    have hsub : sub mid X = mid - X := by
      rw [hsubv]; rw [hsubv] at hmag; rcases (show mid - X < -2305843009213693952 ∨ 2305843009213693952 < mid - X ∨ (-2305843009213693952 ≤ mid - X ∧ mid - X ≤ 2305843009213693952) by omega) with h1 | h1 | h1
      · exfalso; have e : Aj (mid - X) = -2305843009213693952 := by rw [K5, if_pos h1]
        have e2 : mag (-2305843009213693952) = 2305843009213693952 := by decide
        rw [e, e2] at hmag; omega
      · exfalso; have e : Aj (mid - X) = 2305843009213693952 := by rw [K5, if_neg (by omega), if_pos h1]
        have e2 : mag 2305843009213693952 = 2305843009213693952 := by decide
        rw [e, e2] at hmag; omega
      · exact Ap h1
    have habs : -(2 * wd) ≤ mid - X ∧ mid - X ≤ 2 * wd := by
      rw [hsub] at hmag; unfold mag neg at hmag; split at hmag
      · rw [Ap (by omega)] at hmag; omega
      · rw [K5] at hmag; split at hmag
        · omega
        · split at hmag <;> omega
    have hneg : neg p.Mu = -p.Mu := by unfold neg; rw [Ap (by omega)]
    rw [hsub, hneg]
    have hbd : Bc (mid - X) (-p.Mu) p.Mu = if mid - X < -p.Mu then -p.Mu else if p.Mu < mid - X then p.Mu else mid - X := by
      unfold Bc
      by_cases h1 : mid - X < -p.Mu
      · rw [if_pos (.inl h1), if_pos h1]
      · rw [if_neg (by omega), if_neg h1]
    rw [hbd]; have hres : ∀ z : Int, -p.Mu ≤ z → z ≤ p.Mu → Bb [X, z] = X + z := fun z h1 h2 => Fe (by omega) (by omega); refine ⟨?_, ?_⟩
    · split
      · rw [hres _ (by omega) (by omega)]; omega
      · split
        · rw [hres _ (by omega) (by omega)]; omega
        · rw [hres _ (by omega) (by omega)]; omega
    · intro E hE h1 h2; have hXt : X = s.time + ticks := by rw [← hXe]; exact Fe (by omega) (by omega)
      split
      · rw [hres _ (by omega) (by omega)]; omega
      · split
        · rw [hres _ (by omega) (by omega)]; omega
        · rw [hres _ (by omega) (by omega)]; omega
theorem Ai9 {p : Par} (hp : p.Ok) {h k : Int} (hh : 0 ≤ h) (hk : h ≤ k) : gN p ≤ rN p h ∧ rN p h ≤ rN p k := by
  have h1 := E1 hp; unfold rN; have e1 : 0 ≤ (h + 1) * Gj p := Int.mul_nonneg (by omega) h1.1; have e2 : (h + 1) * Gj p ≤ (k + 1) * Gj p := Int.mul_le_mul_of_nonneg_right (by omega) h1.1; omega
theorem Bg.mono {s : Sp} {t g g' : Int} (h : Bg s t g) (hg : g ≤ g') : Bg s t g' := by
  unfold Bg at h ⊢; omega
theorem Qg {c : Cs} {nd b : Nat} (hok : c.p.Ok) (hnd : nd ≤ 32) (hws : (Ak c.p.N.toNat nd).length ≤ 15) {us : List PU} {sd : List M} {s : Stp} {t : Int} (h : Hist c nd b us sd s t) (hb : 5 + c.p.D.toNat ≤ b) {k : Nat} {u : PU} (hk : us[k]? = some u) (ha : Kc c nd u.who) :
    u.s.good = true ∧ u.s.hops ≤ c.p.D ∧ u.s.held ≤ c.p.Hold ∧ Bg ⟨u.s.lo, u.s.hi⟩ t (rN c.p c.p.D) := by
  have hD := hok.D; have hH := hok.Hold
  by_cases hw : u.who < 16
  · obtain ⟨g1, g2, g3, g4⟩ := Q7 hok hnd h (by omega) k u hk hw; exact ⟨g1, by omega, by omega, g4.mono (Ai9 hok hD.1 (Int.le_refl _)).1⟩
  · obtain ⟨_, ha⟩ := ha; obtain ⟨v, j, hv, hj, hn⟩ := ha.resolve_left hw; obtain ⟨g1, g2⟩ := Ap6 hok hnd hws hn h (by omega) hj k u hk hv; obtain ⟨n1, _, n3⟩ := Tx hok hnd hws h (by omega) k u hk hw; have n1' := n1 g1; obtain ⟨t1, t2, t3⟩ := n3 g1 (by omega); exact ⟨g1, by omega, by omega, t1.mono (Ai9 hok n1'.1 (by omega)).2⟩
theorem Ak1 {p : Par} (hp : p.Ok) (hs : settle p ≤ 80) : 0 ≤ rN p p.D ∧ rN p p.D ≤ C5 p p.Hold p.D ∧ C5 p p.Hold p.D ≤ 10000000000000 := by
  have h1 := hp.Rho; have h2 := hp.Beat; have h3 := hp.Mu; have h4 := hp.Hold; have h5 := hp.D; obtain ⟨q, q0, _, q2, q3⟩ := Uc hp hs; obtain ⟨e1, _⟩ := Ss hp (h := p.Hold) (k := p.D) (by omega) (by omega); have h6 := Lq hp; have h7 := E1 hp; have e3 : 0 ≤ 2 * p.Rho * p.Hold := Int.mul_nonneg (by omega) (by omega); have e4 : 0 ≤ (p.D + 1) * Gj p := Int.mul_nonneg (by omega) h7.1; have e5 : q * (p.Mu - p.Rho) ≤ 74 * 274877906944 := Int.mul_le_mul q3 (by omega) (by omega) (by decide); unfold rN; omega
theorem Aux {c : Cs} {nd : Nat} (hok : c.p.Ok) (hs : settle c.p ≤ 80) (hnd : nd ≤ 32) (hws : (Ak c.p.N.toNat nd).length ≤ 15) {b : Nat} {us : List PU} {sd : List M} {s : Stp} {t : Int} (h : Hist c nd b us sd s t) : ∀ j : Nat, b = 5 + c.p.D.toNat + j → ∀ (k : Nat) (u : PU), us[k]? = some u → Kc c nd u.who →
    -(max (C5 c.p c.p.Hold c.p.D) (3 * C5 c.p c.p.Hold c.p.D - j * (c.p.Mu - c.p.Rho))) ≤ u.s.time - t ∧ u.s.time - t ≤ max (C5 c.p c.p.Hold c.p.D) (3 * C5 c.p c.p.Hold c.p.D - j * (c.p.Mu - c.p.Rho)) := by
  obtain ⟨w0, w1, w2⟩ := Ak1 hok hs; have hMu := hok.Mu; have hRho := hok.Rho
  induction h with
  | one => intro j hj; omega
  | @next b us0 us sd0 sd s0 s t h0 hfit hbe hf ht ih =>
    intro j hj k u' hk' ha; have hh := Hist.next h0 hfit hbe hf ht; obtain ⟨g1, g2, g3, g4⟩ := Qg hok hnd hws hh (by omega) hk' ha; obtain ⟨u, hu, hwu⟩ := I7 h0.whos (Hi (Dg hbe h0.whos) hk'); obtain ⟨u2, m, hu2, _, hone, _⟩ := hbe.one k u hu; rw [hk'] at hu2; injection hu2 with hu2; subst hu2; obtain ⟨nx, e1, e2, e3, e4, e5, e6⟩ := Um hone; rw [e5] at g1; rw [e4] at g3; rw [e2, e3] at g4; have hft := (hfit u (List.mem_of_getElem? hu)).1.time; obtain ⟨s1, s2⟩ := Ar1 hok (s := u.s) (ticks := Eg c.p u.who s.ticks) g1 g4 (by omega) g3 ht (hf.tick hok u.who) (by omega) hft; rw [e1]
    cases j with
    | zero =>
      have z : (((0 : Nat) : Int)) * (c.p.Mu - c.p.Rho) = 0 := by simp
      rw [z]; omega
    | succ j =>
      have z : ((j + 1 : Nat) : Int) * (c.p.Mu - c.p.Rho) = j * (c.p.Mu - c.p.Rho) + (c.p.Mu - c.p.Rho) := by push_cast; rw [Int.add_mul]; omega
      obtain ⟨i1, i2⟩ := ih j (by omega) k u hu (by rw [hwu]; exact ha); have hj0 : 0 ≤ (j : Int) * (c.p.Mu - c.p.Rho) := Int.mul_nonneg (by omega) (by omega); obtain ⟨r1, r2⟩ := s2 (max (C5 c.p c.p.Hold c.p.D) (3 * C5 c.p c.p.Hold c.p.D - j * (c.p.Mu - c.p.Rho))) (by omega) i1 i2; rw [z]; omega
theorem Acq {p : Par} (hp : p.Ok) {a b : Int} (ha : -1000000000000000000 ≤ a ∧ a ≤ 1000000000000000000) (hb : -1000000000000000000 ≤ b ∧ b ≤ 1000000000000000000) (h : a - b ≤ p.Pulse) : Bp p a - Bp p b ≤ 1 := by
  have hP := hp.Pulse; unfold Bp; rw [Ap (x := a) (by omega), Ap (x := b) (by omega), Ap (x := p.Pulse) (by omega), show max p.Pulse 1 = p.Pulse by omega]; have h1 : a / p.Pulse ≤ (b + p.Pulse * 1) / p.Pulse := Int.ediv_le_ediv (by omega) (by omega); rw [Int.add_mul_ediv_left _ _ (by omega)] at h1; omega
theorem A7q (c : Cs) (beats : Int) (nd b : Nat) (x : Wd) (n l : Nat) (hs : c.Small beats) (hnd : c.nodes = (nd : Int)) (hb : (settle c.p).toNat ≤ b) (hb2 : b ≤ 200) (hsk : Ar0 c.p c.p.Hold ≤ c.p.Pulse) (h : RunT c nd b x n l) : Us c nd x := by
  have hok := hs.ok; have hn6 := Jm hs hnd; have hnd2 : nd ≤ 32 := by omega
  have hN := hok.N; have hN7 := hs.N; have hD := hok.D; have hMu := hok.Mu; have hRho := hok.Rho; have hH := hok.Hold; have hws : (Ak c.p.N.toNat nd).length ≤ 15 := by rw [Em]; omega
  obtain ⟨q, q0, q1, q2, q3⟩ := Uc hok hs.settle; obtain ⟨w0, w1, w2⟩ := Ak1 hok hs.settle; obtain ⟨b', rfl⟩ : ∃ b', b = b' + 1 := ⟨b - 1, by omega⟩; obtain ⟨sd, s, hh⟩ := Baq hok hnd2 hs.time b' h (by omega); have htb := h.tb hok hs.time hb2; unfold TB at htb
  have key : ∀ m ∈ x.ms, Kc c nd m.u.who → Bf c.p m.u.s ≠ 0 ∧ -(C5 c.p c.p.Hold c.p.D) ≤ m.u.s.time - x.time ∧ m.u.s.time - x.time ≤ C5 c.p c.p.Hold c.p.D := by
    intro m hm ha; obtain ⟨k, hk⟩ := List.getElem?_of_mem hm; have hku : (puL x.ms)[k]? = some m.u := by unfold puL; rw [List.getElem?_map, hk]; rfl
    obtain ⟨g1, g2, g3, g4⟩ := Qg hok hnd2 hws hh (by omega) hku ha
    have hset : m.u.s.set = true := by
      obtain ⟨us0, t0, a1, a2, a3, _⟩ := hh.last; obtain ⟨u, hu, hwu⟩ := I7 a1 (Hi hh.whos hku); obtain ⟨u2, mm, hu2, _, hone, _⟩ := a3.one k u hu; rw [hku] at hu2; injection hu2 with hu2; obtain ⟨nx, _, _, _, _, _, e6⟩ := Um hone; rw [hu2]; exact e6
    refine ⟨?_, ?_⟩
    · unfold Bf; rw [if_neg (by rw [g1, hset]; rintro (h | h | h); cases h; cases h; omega)]; split <;> decide
    · have hj : q ≤ ((b' + 1 - (5 + c.p.D.toNat) : Nat) : Int) := by omega
      have hjd : q * (c.p.Mu - c.p.Rho) ≤ ((b' + 1 - (5 + c.p.D.toNat) : Nat) : Int) * (c.p.Mu - c.p.Rho) := Int.mul_le_mul_of_nonneg_right hj (by omega); have := Aux hok hs.settle hnd2 hws hh (b' + 1 - (5 + c.p.D.toNat)) (by omega) k m.u hku ha; omega
  refine ⟨fun m hm ha => (key m hm ha).1, fun m hm m' hm' ha ha' => ?_⟩; have k1 := (key m hm ha).2; have k2 := (key m' hm' ha').2
  have hsw : Ar0 c.p c.p.Hold = 2 * C5 c.p c.p.Hold c.p.D := by
    unfold Ar0; exact I2 (by decide) (by omega) (by omega)
  exact Acq hok (by omega) (by omega) (by omega)
end
end Go.Proofs.YtaanjifekgfemaaGreat.Cl
namespace Go.Proofs.YtaanjifekgfemaaGreat.Op
section
open Tryz Go.RowKit YtaanjifekgfemaaGreat.K YtaanjifekgfemaaGreat.W YtaanjifekgfemaaGreat.Cl
theorem Acz {w : World} (hsh : w.ShapedOpen Tryz.prog) {c : Cs} (hc : As9 w c) (beats : Int) : Calls Tryz.prog 5 #[.agg (csC c).toArray, .int .i64 beats] w fun e w' => e = .returned (.bool true) ∧ Below w.heap.size w w' := by
  obtain ⟨tbl, htl, hk⟩ := Bl0 hsh
  have I := Adx (w := w) (Gt tbl :: csF c) (by
    intro r hr; rcases List.mem_cons.1 hr with rfl | hr
    · exact hk
    · exact Alx hc r hr)
  refine (Acx tbl htl c beats (fun nd b x n l h1 h2 h3 h4 h5 h6 => A7q c beats nd b x n l h1 h2 h3 h4 h5 h6) _ _ _ _ _ I (Bi5 hc fun r hr => .tail _ hr) ⟨Gt tbl, .inr (.head _), fun w _ => Sl.nil w⟩ (.head _)).mono ?_; rintro e w' ⟨he, G', hG', I⟩; exact ⟨he, I.below⟩
end
end Go.Proofs.YtaanjifekgfemaaGreat.Op
