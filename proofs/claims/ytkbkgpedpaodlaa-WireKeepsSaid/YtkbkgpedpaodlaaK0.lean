/- The base of this seat's walks: resources that a call owns, facts that stay, and what a step of the run does to them. -/
import Derived.WalkKit
import Derived.ProofKit
import Derived.Below
import Derived.Deep.Draws
import Derived.Lib.Hide
set_option linter.unusedVariables false
set_option linter.unusedSimpArgs false
namespace Go.Proofs.Ytkbkgpedpaodlaa.K
open Go.RowKit

/-- A resource: a property of the world that hangs on some blocks alone. -/
structure Res where
  fp : List Nat
  holds : World → Prop
  loc : ∀ w w' : World, (∀ b ∈ fp, w'.heap[b]? = w.heap[b]?) → holds w → holds w'

def fps (L : List Res) : List Nat := L.flatMap (·.fp)
@[simp] theorem fps_nil : fps [] = [] := rfl
@[simp] theorem fps_cons (r : Res) (L : List Res) : fps (r :: L) = r.fp ++ fps L := by simp [fps]
@[simp] theorem fps_append (L M : List Res) : fps (L ++ M) = fps L ++ fps M := by simp [fps]

/-- Where a run stands: w0 is the world at its start, F0 the blocks that it may write of those that were there; L: what it owns; G: what is known and stays. -/
structure St (w0 : World) (F0 : List Nat) (w : World) (L G : List Res) : Prop where
  os : w.os = w0.os
  tape : w.tape = w0.tape
  output : w.output = w0.output
  size : w0.heap.size ≤ w.heap.size
  frame : ∀ b, b < w0.heap.size → b ∉ F0 → w.heap[b]? = w0.heap[b]?
  own : ∀ b ∈ fps L, b < w.heap.size ∧ (b ∈ F0 ∨ w0.heap.size ≤ b)
  nod : (fps L).Nodup
  res : ∀ r ∈ L, r.holds w
  fact : ∀ g ∈ G, g.holds w ∧ ∀ b ∈ g.fp, b < w.heap.size ∧ b ∉ fps L

theorem St.start (w : World) : St w [] w [] [] :=
  ⟨rfl, rfl, rfl, Nat.le_refl _, fun _ _ _ => rfl, by simp, by simp, by simp, by simp⟩

theorem St.below {w0 w : World} {L G : List Res} (h : St w0 [] w L G) : Below w0.heap.size w0 w :=
  ⟨h.os, h.tape, h.output, h.size, fun k hk => h.frame k hk (by simp)⟩

/-- THE STEP: only blocks of L1 are written, new ones may come; L1 turns to L2. -/
theorem St.step {w0 : World} {F0 : List Nat} {w w' : World} {L1 L2 L G : List Res} (h : St w0 F0 w (L1 ++ L) G)
    (os : w'.os = w.os) (tape : w'.tape = w.tape) (output : w'.output = w.output) (size : w.heap.size ≤ w'.heap.size)
    (keep : ∀ b, b < w.heap.size → b ∉ fps L1 → w'.heap[b]? = w.heap[b]?)
    (own : ∀ b ∈ fps L2, b ∈ fps L1 ∨ (w.heap.size ≤ b ∧ b < w'.heap.size)) (nod : (fps L2).Nodup)
    (res : ∀ r ∈ L2, r.holds w') : St w0 F0 w' (L2 ++ L) G := by
  have hd : ∀ b ∈ fps L1, b ∉ fps L := by
    have := h.nod
    rw [fps_append, List.nodup_append] at this
    intro b hb hb'
    exact this.2.2 b hb b hb' rfl
  have hnL : (fps L).Nodup := by
    have := h.nod
    rw [fps_append, List.nodup_append] at this
    exact this.2.1
  have ltL : ∀ b ∈ fps L, b < w.heap.size := fun b hb => (h.own b (by simp [hb])).1
  refine ⟨os.trans h.os, tape.trans h.tape, output.trans h.output, Nat.le_trans h.size size, ?_, ?_, ?_, ?_, ?_⟩
  · intro b hb hF
    have hb' := Nat.lt_of_lt_of_le hb h.size
    rw [keep b hb' ?_, h.frame b hb hF]
    intro hm
    rcases (h.own b (by simp [hm])).2 with h1 | h1
    · exact hF h1
    · omega
  · intro b hb
    rw [fps_append, List.mem_append] at hb
    rcases hb with hb | hb
    · rcases own b hb with h1 | h1
      · obtain ⟨h2, h3⟩ := h.own b (by simp [h1])
        exact ⟨Nat.lt_of_lt_of_le h2 size, h3⟩
      · exact ⟨h1.2, .inr (Nat.le_trans h.size h1.1)⟩
    · obtain ⟨h2, h3⟩ := h.own b (by simp [hb])
      exact ⟨Nat.lt_of_lt_of_le h2 size, h3⟩
  · rw [fps_append, List.nodup_append]
    refine ⟨nod, hnL, ?_⟩
    intro a ha b hb hab
    subst hab
    rcases own a ha with h1 | h1
    · exact hd a h1 hb
    · have := ltL a hb; omega
  · intro r hr
    rw [List.mem_append] at hr
    rcases hr with hr | hr
    · exact res r hr
    · refine r.loc w w' (fun b hb => ?_) (h.res r (by simp [hr]))
      have hm : b ∈ fps L := List.mem_flatMap.2 ⟨r, hr, hb⟩
      exact keep b (ltL b hm) (fun hx => hd b hx hm)
  · intro g hg
    obtain ⟨h1, h2⟩ := h.fact g hg
    refine ⟨g.loc w w' (fun b hb => ?_) h1, fun b hb => ?_⟩
    · obtain ⟨h3, h4⟩ := h2 b hb
      exact keep b h3 (fun hx => h4 (by simp [hx]))
    · obtain ⟨h3, h4⟩ := h2 b hb
      refine ⟨Nat.lt_of_lt_of_le h3 size, ?_⟩
      rw [fps_append, List.mem_append]
      rintro (hx | hx)
      · rcases own b hx with h5 | h5
        · exact h4 (by simp [h5])
        · omega
      · exact h4 (by simp [hx])

theorem St.perm {w0 : World} {F0 : List Nat} {w : World} {L L' G : List Res} (h : St w0 F0 w L G) (p : L.Perm L') : St w0 F0 w L' G := by
  have hf : (fps L).Perm (fps L') := List.Perm.flatMap_right _ p
  refine ⟨h.os, h.tape, h.output, h.size, h.frame, fun b hb => h.own b (hf.mem_iff.2 hb), hf.nodup_iff.1 h.nod, fun r hr => h.res r (p.mem_iff.2 hr), fun g hg => ?_⟩
  obtain ⟨h1, h2⟩ := h.fact g hg
  exact ⟨h1, fun b hb => ⟨(h2 b hb).1, fun hx => (h2 b hb).2 (hf.mem_iff.2 hx)⟩⟩

theorem St.swap {w0 : World} {F0 : List Nat} {w : World} {r s : Res} {L G : List Res} (h : St w0 F0 w (r :: s :: L) G) : St w0 F0 w (s :: r :: L) G :=
  h.perm (List.Perm.swap _ _ _)
/-- The third comes ahead. -/
theorem St.up3 {w0 : World} {F0 : List Nat} {w : World} {r s t : Res} {L G : List Res} (h : St w0 F0 w (r :: s :: t :: L) G) : St w0 F0 w (t :: r :: s :: L) G :=
  h.perm (((List.Perm.swap t s L).cons r).trans (List.Perm.swap _ _ _))
theorem St.up4 {w0 : World} {F0 : List Nat} {w : World} {r s t u : Res} {L G : List Res} (h : St w0 F0 w (r :: s :: t :: u :: L) G) : St w0 F0 w (u :: r :: s :: t :: L) G :=
  h.perm ((((List.Perm.swap u t L).cons s).trans (List.Perm.swap u s _)).cons r |>.trans (List.Perm.swap _ _ _))

theorem St.drop {w0 : World} {F0 : List Nat} {w : World} {r : Res} {L G : List Res} (h : St w0 F0 w (r :: L) G) : St w0 F0 w L G := by
  refine ⟨h.os, h.tape, h.output, h.size, h.frame, fun b hb => h.own b (by simp [hb]), ?_, fun s hs => h.res s (by simp [hs]), fun g hg => ?_⟩
  · have := h.nod
    rw [fps_cons, List.nodup_append] at this
    exact this.2.1
  · obtain ⟨h1, h2⟩ := h.fact g hg
    exact ⟨h1, fun b hb => ⟨(h2 b hb).1, fun hx => (h2 b hb).2 (by simp [hx])⟩⟩

/-- What is owned and will be written no more is known from now on. -/
theorem St.toFact {w0 : World} {F0 : List Nat} {w : World} {r : Res} {L G : List Res} (h : St w0 F0 w (r :: L) G) : St w0 F0 w L (r :: G) := by
  have hd := h.drop
  refine ⟨hd.os, hd.tape, hd.output, hd.size, hd.frame, hd.own, hd.nod, hd.res, fun g hg => ?_⟩
  rcases List.mem_cons.1 hg with rfl | hg
  · refine ⟨h.res g (by simp), fun b hb => ⟨(h.own b (by simp [hb])).1, fun hx => ?_⟩⟩
    have := h.nod
    rw [fps_cons, List.nodup_append] at this
    exact this.2.2 b hb b hx rfl
  · exact hd.fact g hg

theorem St.facts {w0 : World} {F0 : List Nat} {w : World} {L G G' : List Res} (h : St w0 F0 w L G) (hs : ∀ g ∈ G', g ∈ G) : St w0 F0 w L G' :=
  ⟨h.os, h.tape, h.output, h.size, h.frame, h.own, h.nod, h.res, fun g hg => h.fact g (hs g hg)⟩
theorem St.forget {w0 : World} {F0 : List Nat} {w : World} {L G : List Res} {g : Res} (h : St w0 F0 w L (g :: G)) : St w0 F0 w L G := h.facts (by simp +contextual)
/-- A fact that follows from one that is known, and hangs on no other blocks. -/
theorem St.know {w0 : World} {F0 : List Nat} {w : World} {L G : List Res} (h : St w0 F0 w L G) (r g : Res) (hr : r ∈ G) (hi : r.holds w → g.holds w) (hf : ∀ b ∈ g.fp, b ∈ r.fp) : St w0 F0 w L (g :: G) :=
  ⟨h.os, h.tape, h.output, h.size, h.frame, h.own, h.nod, h.res, fun x hx => by
    rcases List.mem_cons.1 hx with rfl | hx
    · exact ⟨hi (h.fact r hr).1, fun b hb => (h.fact r hr).2 b (hf b hb)⟩
    · exact h.fact x hx⟩
/-- A fact that hangs on nothing. -/
theorem St.learn {w0 : World} {F0 : List Nat} {w : World} {L G : List Res} (h : St w0 F0 w L G) (g : Res) (hi : g.holds w) (hf : g.fp = []) : St w0 F0 w L (g :: G) :=
  ⟨h.os, h.tape, h.output, h.size, h.frame, h.own, h.nod, h.res, fun x hx => by
    rcases List.mem_cons.1 hx with rfl | hx
    · exact ⟨hi, fun b hb => by rw [hf] at hb; cases hb⟩
    · exact h.fact x hx⟩
/-- What is owned turns to what follows from it. -/
theorem St.turn {w0 : World} {F0 : List Nat} {w : World} {L1 L2 L G : List Res} (h : St w0 F0 w (L1 ++ L) G)
    (own : ∀ b ∈ fps L2, b ∈ fps L1) (nod : (fps L2).Nodup) (res : ∀ r ∈ L2, r.holds w) : St w0 F0 w (L2 ++ L) G :=
  h.step rfl rfl rfl (Nat.le_refl _) (fun _ _ _ => rfl) (fun b hb => .inl (own b hb)) nod res
theorem St.turn1 {w0 : World} {F0 : List Nat} {w : World} {r s : Res} {L G : List Res} (h : St w0 F0 w (r :: L) G)
    (own : ∀ b ∈ s.fp, b ∈ r.fp) (nod : s.fp.Nodup) (res : r.holds w → s.holds w) : St w0 F0 w (s :: L) G :=
  St.turn (L1 := [r]) (L2 := [s]) h (by simpa using own) (by simpa using nod) (by simpa using res (h.res r (by simp)))

/-- A draw. -/
theorem St.drewN {w0 : World} {F0 : List Nat} {w : World} {L G : List Res} (h : St w0 F0 w L G) (n : Nat) : St w0 F0 (w.drewN n) L G :=
  St.step (L1 := []) (L2 := []) h rfl rfl rfl (Nat.le_refl _) (fun _ _ _ => rfl) (by simp) (by simp) (by simp)
theorem St.drew {w0 : World} {F0 : List Nat} {w : World} {L G : List Res} (h : St w0 F0 w L G) : St w0 F0 w.drew L G :=
  St.step (L1 := []) (L2 := []) h rfl rfl rfl (Nat.le_refl _) (fun _ _ _ => rfl) (by simp) (by simp) (by simp)

/-- A new block. -/
theorem St.alloc {w0 : World} {F0 : List Nat} {w : World} {L G : List Res} (h : St w0 F0 w L G) (o : Obj) (r : Res) (hf : r.fp = [w.heap.size]) (hr : r.holds (w.alloc o)) :
    St w0 F0 (w.alloc o) (r :: L) G := by
  refine St.step (L1 := []) (L2 := [r]) h rfl rfl rfl (by simp) (fun b hb _ => Below.heap_alloc _ _ _ hb) ?_ (by simp [hf]) (by simpa using hr)
  intro b hb
  simp [hf] at hb
  subst hb
  exact .inr ⟨Nat.le_refl _, by simp⟩

/-! ### Blocks of cells -/
/-- Block b holds the cells cs, and may be written. -/
def cellsR (b : Nat) (cs : List Value) (e : TypeId) : Res where
  fp := [b]
  holds w := ∃ fr : Nat × Nat, w.heap[b]? = some (.cells cs.toArray e fr) ∧ (fr.1 = fr.2 ∨ cs.length ≤ fr.1)
  loc w w' h := by rintro ⟨fr, h1, h2⟩; exact ⟨fr, by rw [h b (by simp)]; exact h1, h2⟩
@[simp] theorem cellsR_fp (b : Nat) (cs : List Value) (e : TypeId) : (cellsR b cs e).fp = [b] := rfl

theorem cellsR_new (w : World) (cs : List Value) (e : TypeId) : (cellsR w.heap.size cs e).holds (w.alloc (.cells cs.toArray e)) :=
  ⟨(0, 0), heap_alloc_new w _, .inl rfl⟩

theorem cellsR_cell {w : World} {b : Nat} {cs : List Value} {e : TypeId} (h : (cellsR b cs e).holds w) (i : Nat) : w.cell? ⟨b, i, none⟩ = cs[i]? := by
  obtain ⟨fr, h1, h2⟩ := h
  simp [World.cell?, h1]
theorem cellsR_free {w : World} {b : Nat} {cs : List Value} {e : TypeId} (h : (cellsR b cs e).holds w) (i : Nat) (hi : i < cs.length) : w.frozen? ⟨b, i, none⟩ = false := by
  obtain ⟨fr, h1, h2⟩ := h
  simp only [World.frozen?, h1]
  simp
  omega
theorem cellsR_lt {w : World} {b : Nat} {cs : List Value} {e : TypeId} (h : (cellsR b cs e).holds w) : b < w.heap.size := by
  obtain ⟨fr, h1, h2⟩ := h
  exact (Array.getElem?_eq_some_iff.1 h1).1

theorem St.cell {w0 : World} {F0 : List Nat} {w : World} {b : Nat} {cs : List Value} {e : TypeId} {L G : List Res} (h : St w0 F0 w L G) (hm : cellsR b cs e ∈ L ∨ cellsR b cs e ∈ G) (i : Nat) : w.cell? ⟨b, i, none⟩ = cs[i]? := by
  rcases hm with hm | hm
  · exact cellsR_cell (h.res _ hm) i
  · exact cellsR_cell (h.fact _ hm).1 i

/-- A store into one's own block. -/
theorem St.setCell {w0 : World} {F0 : List Nat} {w : World} {b : Nat} {cs : List Value} {e : TypeId} {L G : List Res} (h : St w0 F0 w (cellsR b cs e :: L) G) (i : Nat) (v : Value) :
    St w0 F0 (w.setCell ⟨b, i, none⟩ v) (cellsR b (cs.set i v) e :: L) G := by
  obtain ⟨fr, h1, h2⟩ := h.res (cellsR b cs e) (by simp)
  refine St.step (L1 := [cellsR b cs e]) (L2 := [cellsR b (cs.set i v) e]) h rfl rfl rfl (by simp [World.setCell]) ?_ (by simp) (by simp) ?_
  · intro k hk hn
    exact Below.heap_setCell _ _ _ _ (by simpa using hn)
  · intro r hr
    simp at hr
    subst hr
    refine ⟨fr, ?_, by simpa using h2⟩
    simp [World.setCell, Array.getElem?_modify, h1]

/-! ### A slice that can be read -/
/-- The n elements of v, size cells each, are the cells xs. -/
def Sl (w : World) (v : Value) (n : Nat) (xs : List Value) : Prop :=
  ∃ A cap, v = .slice A n cap ∧ n ≤ cap ∧ (xs ≠ [] → ∃ ad, A = some ad ∧ ∀ j, j < xs.length → w.cell? (ad.add j) = xs[j]?)

def blockOf : Value → List Nat
  | .slice (some a) _ _ => [a.block]
  | _ => []

def slR (v : Value) (n : Nat) (xs : List Value) : Res where
  fp := if xs = [] then [] else blockOf v
  holds w := Sl w v n xs
  loc w w' h := by
    rintro ⟨A, cap, rfl, hn, h2⟩
    refine ⟨A, cap, rfl, hn, fun hx => ?_⟩
    obtain ⟨ad, rfl, h3⟩ := h2 hx
    refine ⟨ad, rfl, fun j hj => ?_⟩
    rw [← h3 j hj]
    have hb := h ad.block (by simp [hx, blockOf])
    have e : (ad.add j).block = ad.block := by unfold Addr.add; split <;> rfl
    exact World.cell?_of_block (by rw [e]; exact hb)
theorem slR_fp (v : Value) (n : Nat) (xs : List Value) : ∀ b ∈ (slR v n xs).fp, b ∈ blockOf v := by
  intro b hb
  simp only [slR] at hb
  split at hb
  · cases hb
  · exact hb

/-- Something that is owned or known tells the slice. -/
def Rds (L G : List Res) (v : Value) (n : Nat) (xs : List Value) : Prop := ∃ r, (r ∈ L ∨ r ∈ G) ∧ ∀ w, r.holds w → Sl w v n xs
theorem Rds.sl {w0 : World} {F0 : List Nat} {w : World} {L G : List Res} {v : Value} {n : Nat} {xs : List Value} (h : Rds L G v n xs) (s : St w0 F0 w L G) : Sl w v n xs := by
  obtain ⟨r, hr, hi⟩ := h
  rcases hr with hr | hr
  · exact hi w (s.res r hr)
  · exact hi w (s.fact r hr).1
theorem Rds.mono {L G L' G' : List Res} {v : Value} {n : Nat} {xs : List Value} (h : Rds L G v n xs) (h1 : ∀ r ∈ L, r ∈ L' ∨ r ∈ G') (h2 : ∀ r ∈ G, r ∈ G') : Rds L' G' v n xs := by
  obtain ⟨r, hr, hi⟩ := h
  exact ⟨r, hr.elim (h1 r) (fun h => .inr (h2 r h)), hi⟩
theorem Rds.cons {L G : List Res} {v : Value} {n : Nat} {xs : List Value} (h : Rds L G v n xs) (r : Res) : Rds (r :: L) G v n xs := h.mono (fun s hs => .inl (by simp [hs])) (fun s hs => hs)
theorem Rds.consG {L G : List Res} {v : Value} {n : Nat} {xs : List Value} (h : Rds L G v n xs) (r : Res) : Rds L (r :: G) v n xs := h.mono (fun s hs => .inl hs) (fun s hs => by simp [hs])
theorem Rds.ofG {L G : List Res} {v : Value} {n : Nat} {xs : List Value} (h : slR v n xs ∈ G) : Rds L G v n xs := ⟨_, .inr h, fun _ h => h⟩
theorem Rds.ofL {L G : List Res} {v : Value} {n : Nat} {xs : List Value} (h : slR v n xs ∈ L) : Rds L G v n xs := ⟨_, .inl h, fun _ h => h⟩
theorem Sl.nil (w : World) : Sl w (.slice none 0 0) 0 [] := ⟨none, 0, rfl, Nat.le_refl _, fun h => absurd rfl h⟩

theorem Sl.lt {w : World} {v : Value} {n : Nat} {xs : List Value} (h : Sl w v n xs) : ∀ b ∈ (slR v n xs).fp, b < w.heap.size := by
  intro b hb
  obtain ⟨A, cap, rfl, hcap, hA⟩ := h
  simp only [slR] at hb
  split at hb
  · cases hb
  · rename_i hx
    obtain ⟨ad, rfl, hc⟩ := hA hx
    have hl : 0 < xs.length := by cases xs; exact absurd rfl hx; simp
    have h0 := hc 0 hl
    rw [List.getElem?_eq_getElem hl] at h0
    have := World.block_lt_of_cell? w _ h0
    have e : (ad.add 0) = ad := by simp [Addr.add]
    rw [e] at this
    simp [blockOf] at hb
    omega
/-- What is read at the start. -/
theorem St.arg {w : World} {G : List Res} (h : St w [] w [] G) {v : Value} {n : Nat} {xs : List Value} (hs : Sl w v n xs) : St w [] w [] (slR v n xs :: G) :=
  ⟨h.os, h.tape, h.output, h.size, h.frame, h.own, h.nod, h.res, fun g hg => by
    rcases List.mem_cons.1 hg with rfl | hg
    · exact ⟨hs, fun b hb => ⟨hs.lt b hb, by simp⟩⟩
    · exact h.fact g hg⟩
theorem Sl.of_cells {w : World} {b : Nat} {cs : List Value} {e : TypeId} (h : (cellsR b cs e).holds w) (n cap : Nat) (hn : n ≤ cap := by omega) : Sl w (.slice (some ⟨b, 0, none⟩) n cap) n cs :=
  ⟨_, cap, rfl, hn, fun _ => ⟨_, rfl, fun j hj => by
    have : (⟨b, 0, none⟩ : Addr).add j = ⟨b, j, none⟩ := by unfold Addr.add; split <;> simp_all
    rw [this, cellsR_cell h]⟩⟩
theorem Rds.cells {L G : List Res} {b : Nat} {cs : List Value} {e : TypeId} (h : cellsR b cs e ∈ L ∨ cellsR b cs e ∈ G) (n cap : Nat) (hn : n ≤ cap := by omega) : Rds L G (.slice (some ⟨b, 0, none⟩) n cap) n cs :=
  ⟨_, h, fun _ h => Sl.of_cells h n cap hn⟩
end Go.Proofs.Ytkbkgpedpaodlaa.K
