/- The base of this seat's walks, anew: bytes of a text. -/
import Derived.Test.YtkbkgpedpaodlaaE4
import Derived.Laws.IdiomStrings
set_option linter.unusedVariables false
set_option linter.unusedSimpArgs false
namespace Go.Proofs.Ytkbkgpedpaodlaa.K
open Go.RowKit

section
variable {P : Program} {n : Fr} {c : Code} {Q : Post} {ρ : Env} {w0 w : World} {F0 : List Nat} {L G : List Res} {S : World → Prop} {ty t t' : TypeId} {x y : Operand}
theorem str_sz (l : List UInt8) : (str l).size = l.length := by simp [str, ByteArray.size]
theorem bytesRow_str (l : List UInt8) (m : Nat) : bytesRow (str l) (l.length + m) = (bvs l ++ List.replicate m (Value.int .u8 0)).toArray := by
  unfold bytesRow
  rw [str_sz]
  apply Array.ext'
  simp [str, bvs]
  exact fun a _ => rfl
/-- []byte(s). -/
theorem X.bytes (hst : St w0 F0 w L G) {src e : TypeId} (hs : P.underlying src = some .string) (hd : P.underlying t = some (.slice e)) (he : P.underlying e = some (.int .u8)) {l : List UInt8} (hx : ev ρ x = .string (str l)) {K : Value → World → Prop}
    (k : ∀ b m w', St w0 F0 w' (cellsR b (bvs l ++ List.replicate m (.int .u8 0)) e :: L) G → K (.slice (some ⟨b, 0, none⟩) l.length (l.length + m)) w') : X P ρ w (.convert src t x) ty K := by
  intro a ops Q o ho _ ha hw
  have hge := grownCap_ge w l.length 0 e
  obtain ⟨m, hm⟩ := Nat.exists_eq_add_of_le hge
  have hr := run_bytes_of_string w src t e (str l) hs hd he
  rw [str_sz, hm, bytesRow_str] at hr
  refine wpl hw (v := .slice (some ⟨w.heap.size, 0, none⟩) l.length (l.length + m)) (w' := w.drew.alloc (.cells (bvs l ++ List.replicate m (Value.int .u8 0)).toArray e ((bvs l ++ List.replicate m (Value.int .u8 0)).toArray.size, (bvs l ++ List.replicate m (Value.int .u8 0)).toArray.size + 1))) ?_ ⟨_, rfl, k w.heap.size m _ ?_⟩
  · simp only [execOp, ho, ha, hx]
    rw [Sem.run_bind, hr]
    rfl
  · refine hst.drew.alloc _ _ rfl ?_
    exact ⟨_, heap_alloc_new w.drew _, .inr (by simp)⟩
/-- The front of a block that is owned. -/
theorem Rds.front (j : Nat) {b : Nat} {cs xs : List Value} {e : TypeId} (h : L[j]? = some (cellsR b cs e)) {k cp : Nat} (hk : k ≤ cp) (hx : ∀ i, i < xs.length → cs[i]? = xs[i]?) : Rds L G (.slice (some ⟨b, 0, none⟩) k cp) k xs :=
  ⟨cellsR b cs e, .inl (List.mem_of_getElem? h), fun w hw => ⟨_, _, rfl, hk, fun _ => ⟨_, rfl, fun i hi => by
    rw [add_lit', cellsR_cell hw, Nat.zero_add]; exact hx i hi⟩⟩⟩
theorem bytes_front (l : List UInt8) (m : Nat) : ∀ i, i < (bvs l).length → (bvs l ++ List.replicate m (Value.int .u8 0))[i]? = (bvs l)[i]? := fun i hi => List.getElem?_append_left hi
end
end Go.Proofs.Ytkbkgpedpaodlaa.K
