/- The base of this seat's walks, continued: bytes and strings. -/
import Derived.Test.YtkbkgpedpaodlaaK2
import Derived.Laws.BytesArg
set_option linter.unusedVariables false
set_option linter.unusedSimpArgs false
namespace Go.Proofs.Ytkbkgpedpaodlaa.K
open Go.RowKit

def bv (x : UInt8) : Value := .int .u8 (x.toNat : Int)
def bvs (l : List UInt8) : List Value := l.map bv
@[simp] theorem bvs_length (l : List UInt8) : (bvs l).length = l.length := by simp [bvs]
theorem bv_of {l : List UInt8} {k : Nat} (h : k < l.length) : (bvs l)[k]? = some (bv l[k]) := by simp [bvs, List.getElem?_eq_getElem h]
theorem bvs_append (l m : List UInt8) : bvs (l ++ m) = bvs l ++ bvs m := by simp [bvs]
theorem bvs_ones (l : List UInt8) : ∀ v ∈ bvs l, v.oneCell' = true := by
  intro v hv
  simp only [bvs, List.mem_map] at hv
  obtain ⟨x, _, rfl⟩ := hv
  rfl
theorem bvs_inj {l m : List UInt8} (h : bvs l = bvs m) : l = m := by
  induction l generalizing m with
  | nil => cases m with
    | nil => rfl
    | cons y m => simp [bvs] at h
  | cons x l ih => cases m with
    | nil => simp [bvs] at h
    | cons y m =>
      simp only [bvs, List.map_cons, List.cons.injEq, bv, Value.int.injEq, true_and] at h
      have hx : x = y := UInt8.toNat_inj.1 (by omega)
      rw [hx, ih h.2]
/-- The bytes of a string. -/
def sb (s : ByteArray) : List UInt8 := s.data.toList
@[simp] theorem sb_length (s : ByteArray) : (sb s).length = s.size := by simp [sb]
/-- The string of bytes. -/
def str (l : List UInt8) : ByteArray := ⟨l.toArray⟩
@[simp] theorem sb_str (l : List UInt8) : sb (str l) = l := rfl
@[simp] theorem str_sb (s : ByteArray) : str (sb s) = s := by cases s; simp [str, sb]
@[simp] theorem str_size (l : List UInt8) : (str l).size = l.length := rfl
theorem str_inj {l m : List UInt8} : str l = str m ↔ l = m := ⟨fun h => by have := congrArg sb h; simpa using this, fun h => by rw [h]⟩

section
variable {P : Program} {ops : Array Oper} {Q : Exit → Act → World → Prop} {rest : List Oper} {K : Act → World → Prop} {o : Oper} {a : Act} {w0 w : World} {F0 : List Nat} {L G : List Res}

theorem run_str {src e : TypeId} (hs : P.underlying src = some (.slice e)) (he : P.underlying e = some (.int .u8)) {v : Value} {l : List UInt8} (h : Sl w v l.length (bvs l)) {dst : TypeId} (hd : P.underlying dst = some .string) :
    (convert src dst v).run P w = .ok (.string (str l)) w := by
  obtain ⟨A, cap, rfl, hcap, hA⟩ := h
  by_cases hl : l = []
  · subst hl
    rw [run_convert_bytes_string w src dst e _ _ cap hs he hd]
    cases A with
    | none => simp [Conv.bytesToString]; rfl
    | some ad => simp [Conv.bytesToString, loadCells, loadCellsFrom]; rfl
  · obtain ⟨ad, rfl, hc⟩ := hA (by intro h; apply hl; have := congrArg List.length h; rw [bvs_length] at this; exact List.eq_nil_of_length_eq_zero this)
    have hl2 : (loadCells ad l.length).run P w = .ok ((l.map fun x => (x.toNat : Int)).map (Value.int .u8)).toArray w := by
      have h1 := run_loadCells_list (P := P) w ad (bvs l) (fun j u hj => by
        have hjl : j < (bvs l).length := by
          rcases Nat.lt_or_ge j (bvs l).length with h | h
          · exact h
          · rw [List.getElem?_eq_none h] at hj; cases hj
        rw [hc j hjl, hj])
      rw [bvs_length] at h1
      rw [h1]
      congr 2
      simp [bvs, bv]
    rw [run_convert_bytes_string w src dst e _ _ cap hs he hd, run_bytesToString w _ _ cap _ hl2, foldl_push_bytes]
    congr 2
    simp only [str, List.map_map]
    congr 1
    have : (fun n : Int => UInt8.ofNat n.toNat) ∘ (fun x : UInt8 => (x.toNat : Int)) = id := by
      funext x
      simp
    rw [this]
    simp [ByteArray.empty, ByteArray.emptyWithCapacity]
    rfl
theorem r_str (hst : St w0 F0 w L G) (hw : Region.wanted o (yielded ops a.tmps) = true) {src e dst : TypeId} {x : Operand} (ho : o.op = .convert src dst x) (hs : P.underlying src = some (.slice e)) (he : P.underlying e = some (.int .u8)) (hd : P.underlying dst = some .string)
    {v : Value} (hx : a.eval x = v) {l : List UInt8} {n : Nat} (h : Rds L G v n (bvs l)) (hn : n = l.length) (k : K (a.put o.dst (.string (str l))) w) : opK P ops Q o K a w := by
  subst hn
  refine wpl hw (v := .string (str l)) (w' := w) ?_ k
  simp [execOp, ho, hx, run_str hs he (h.sl hst) hd]
theorem y_str (hw : Region.wanted o (yielded ops a.tmps) = true) {src e dst : TypeId} {x : Operand} (ho : o.op = .convert src dst x) (hs : P.underlying src = some (.slice e)) (he : P.underlying e = some (.int .u8)) (hd : P.underlying dst = some .string)
    {v : Value} (hx : a.eval x = v) {l : List UInt8} {n : Nat} (h : Rds L G v n (bvs l)) (hn : n = l.length) : YieldsIf P ops (Ctx w0 F0 L G) o (.string (str l)) a := by
  subst hn
  refine .inl ⟨hw, fun w hS => ?_⟩
  obtain ⟨L', G', hst⟩ := hS
  have h2 : Rds (L' ++ L) (G' ++ G) v l.length (bvs l) := h.mono (fun r hr => .inl (List.mem_append.2 (.inr hr))) (fun r hr => List.mem_append.2 (.inr hr))
  simp [execOp, ho, hx, run_str hs he (h2.sl hst) hd]
end
end Go.Proofs.Ytkbkgpedpaodlaa.K
