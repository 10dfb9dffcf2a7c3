/- The walk of CrcMixes. -/
import Derived.Test.YtphnnhbneinejaaCW5
import Derived.Test.YtphnnhbneinejaaK5
set_option linter.unusedVariables false
set_option linter.unusedSimpArgs false
namespace Go.Proofs.Ytphnnhbneinejaa.CW
open Go.RowKit Go.Proofs.Ytphnnhbneinejaa.K Go.Proofs.Ytphnnhbneinejaa.CM
attribute [local irreducible] iv crc more reg turns

theorem bits8' (x y : UInt8) : Go.bits .xor .u8 (x.toNat : Int) (y.toNat : Int) = ((x ^^^ y).toNat : Int) := by
  have e : ∀ z : UInt8, BitVec.ofInt IntKind.u8.bits (z.toNat : Int) = z.toBitVec := fun z => by
    show BitVec.ofInt 8 (z.toNat : Int) = z.toBitVec
    rw [BitVec.ofInt_natCast, ← UInt8.toNat_toBitVec, BitVec.ofNat_toNat, BitVec.setWidth_eq]
  unfold Go.bits
  simp only [e]
  show IntKind.u8.wrap ((x.toBitVec ^^^ y.toBitVec).toNat : Int) = _
  rw [← UInt8.toBitVec_xor, UInt8.toNat_toBitVec, IntKind.wrap_u8]
  have := (x ^^^ y).toNat_lt
  omega

/-- What stands in the made row when the first k places are laid. -/
def part (m : List UInt8) (k : Nat) : List UInt8 := m.take k ++ List.replicate (m.length - k) 0
theorem part_zero (m : List UInt8) : part m 0 = List.replicate m.length 0 := by simp [part]
theorem part_all (m : List UInt8) : part m m.length = m := by simp [part]
theorem part_length (m : List UInt8) (k : Nat) (h : k ≤ m.length) : (part m k).length = m.length := by simp [part]; omega
theorem part_step (m : List UInt8) (k : Nat) (h : k < m.length) : (part m k).set k m[k] = part m (k + 1) := by
  unfold part
  have h1 : (m.take k).length = k := by simp; omega
  rw [List.set_append_right _ _ (by omega), h1, Nat.sub_self]
  rw [show m.length - k = (m.length - (k + 1)) + 1 by omega, List.replicate_succ, List.set_cons_zero, List.take_succ_eq_append_getElem h, List.append_assoc]
  rfl

/-- A cell of a slice that is read, as a load of a region that draws finds it. -/
theorem y_loadSl {P : Program} {ops : Array Oper} {o : Oper} {a : Act} {w0 : World} {F0 : List Nat} {L G : List Res} (hw : Region.wanted o (yielded ops a.tmps) = true) {t : TypeId} {x : Operand} (ho : o.op = .load t x)
    {ad : Addr} {k n c : Nat} (hx : a.eval x = .pointer (some (ad.add k))) {xs : List Value} (hr : Rds L G (.slice (some ad) n c) n xs) (hag : ∀ w, (isAgg t).run P w = .ok false w) {v : Value} (hc : xs[k]? = some v) : YieldsIf P ops (Ctx w0 F0 L G) o v a :=
  y_at hw ho hx fun w hS => run_load_cell hag (by
    obtain ⟨L', G', hst⟩ := hS
    have h2 : Rds (L' ++ L) (G' ++ G) (.slice (some ad) n c) n xs := hr.mono (fun r hr => .inl (List.mem_append.2 (.inr hr))) (fun r hr => List.mem_append.2 (.inr hr))
    obtain ⟨A, cap, he, hcap, hA⟩ := h2.sl hst
    injection he with he
    subst he
    have hk : k < xs.length := by rcases Nat.lt_or_ge k xs.length with h | h; exact h; rw [List.getElem?_eq_none h] at hc; cases hc
    obtain ⟨ad', he, hc'⟩ := hA (by intro h; rw [h] at hk; simp at hk)
    injection he with he
    subst he
    rw [hc' k hk, hc])

set_option maxHeartbeats 8000000 in
theorem mixes_main (v1 v2 v3 : Value) (l1 l2 l3 : List UInt8) (w : World) (h1 : Sl w v1 l1.length (bvs l1)) (h2 : Sl w v2 l2.length (bvs l2)) (h3 : Sl w v3 l3.length (bvs l3))
    (g1 : l1.length ≤ 8192) (g2 : l1.length ≤ l2.length) (g3 : l1.length ≤ l3.length) (m2 : l2.length ≤ 9223372036854775807) (m3 : l3.length ≤ 9223372036854775807) :
    Calls Try.prog 5 #[v1, v2, v3] w fun e w' => e = .returned (.bool true) ∧ Below w.heap.size w w' := by
  have hst := (((St.start w).arg h3).arg h2).arg h1
  obtain ⟨A1, c1, rfl, k1, -⟩ := h1
  obtain ⟨A2, c2, rfl, k2, -⟩ := h2
  obtain ⟨A3, c3, rfl, k3, -⟩ := h3
  obtain ⟨m, hm⟩ : ∃ m, m = xors (xors l1 (l2.take l1.length)) (l3.take l1.length) := ⟨_, rfl⟩
  have hml : m.length = l1.length := by rw [hm]; simp [xors]; omega
  have hm' := Lib.hid hm
  have hml' := Lib.hid hml
  clear hm hml
  have d1 : decide (8192 < (l1.length : Int)) = false := by simp; omega
  have d2 : decide ((l2.length : Int) < (l1.length : Int)) = false := by simp; omega
  have d3 : decide ((l3.length : Int) < (l1.length : Int)) = false := by simp; omega
  go_enter Try.func5, Try.ntmps5
  go_wp2_with (first
    | (go_at_call 9; refine use_call (alive_any _ _ _ _ _ hst) rfl ?_; clear hst; rintro e w1 ⟨rfl, hst⟩)
    | (refine wpList_opK ?_
       refine r_make hst (by rfl) rfl Try.underlying22 info8 rfl (n := l1.length) rfl rfl (by omega) (by omega) ?_; clear hst; intro bx w1 hst; try simp only [Act.eval, Act.put, List.setIfInBounds_toArray, List.set_cons_zero, List.set_cons_succ, Array.getD_eq_getD_getElem?, List.getElem?_toArray, List.getElem?_cons_zero, List.getElem?_cons_succ, Option.getD_some, Value.cells, List.toList_toArray] at hst ⊢))
  have hrep : List.replicate l1.length (Value.int .u8 0) = bvs (part m 0) := by rw [part_zero, hml'.out]; simp [bvs, bv]
  rw [hrep] at hst
  clear hrep
  go_loopw [33] (fun i wr => ∃ k : Nat, k ≤ l1.length ∧ i = .int .i64 k ∧ St w [] wr [cellsR bx (bvs (part m k)) 5]
      [slR (.slice A1 l1.length c1) l1.length (bvs l1), slR (.slice A2 l2.length c2) l2.length (bvs l2), slR (.slice A3 l3.length c3) l3.length (bvs l3)]) (fun i _ => l1.length - (intOf i).toNat)
  case atStart => exact ⟨0, by omega, rfl, hst⟩
  case round =>
    clear hst
    obtain ⟨k, hk, rfl, hst⟩ := hrel
    by_cases hlt : k < l1.length
    · have some_of : ∀ {A : Option Addr} {c : Nat} {l : List UInt8} (j : Nat), slR (.slice A l.length c) l.length (bvs l) ∈ [slR (.slice A1 l1.length c1) l1.length (bvs l1), slR (.slice A2 l2.length c2) l2.length (bvs l2), slR (.slice A3 l3.length c3) l3.length (bvs l3)] → j < l.length → ∃ ad, A = some ad := by
        intro A c l j hmem hj
        obtain ⟨A', cap, he, -, hA⟩ := (hst.fact _ hmem).1
        injection he with he
        obtain ⟨ad, had, -⟩ := hA (by intro h; have := congrArg List.length h; rw [bvs_length, List.length_nil] at this; omega)
        exact ⟨ad, he.trans had⟩
      obtain ⟨e1, rfl⟩ := some_of (A := A1) (c := c1) (l := l1) k (by simp) hlt
      obtain ⟨e2, rfl⟩ := some_of (A := A2) (c := c2) (l := l2) k (by simp) (show k < l2.length by omega)
      obtain ⟨e3, rfl⟩ := some_of (A := A3) (c := c3) (l := l3) k (by simp) (show k < l3.length by omega)
      clear some_of
      obtain ⟨x1, q1⟩ : ∃ x, l1[k]? = some x := ⟨_, List.getElem?_eq_getElem hlt⟩
      obtain ⟨x2, q2⟩ : ∃ x, l2[k]? = some x := ⟨_, List.getElem?_eq_getElem (by omega)⟩
      obtain ⟨x3, q3⟩ : ∃ x, l3[k]? = some x := ⟨_, List.getElem?_eq_getElem (by omega)⟩
      have p1 : (bvs l1)[k]? = some (.int .u8 (x1.toNat : Int)) := by simp [bvs, q1, bv]
      have p2 : (bvs l2)[k]? = some (.int .u8 (x2.toNat : Int)) := by simp [bvs, q2, bv]
      have p3 : (bvs l3)[k]? = some (.int .u8 (x3.toNat : Int)) := by simp [bvs, q3, bv]
      have hmk : m[k]? = some (x1 ^^^ x2 ^^^ x3) := by
        rw [hm'.out]
        have t2 : (l2.take l1.length)[k]? = some x2 := by rw [List.getElem?_take_of_lt hlt, q2]
        have t3 : (l3.take l1.length)[k]? = some x3 := by rw [List.getElem?_take_of_lt hlt, q3]
        unfold xors
        rw [List.getElem?_zipWith, List.getElem?_zipWith, q1, t2, t3]
      have hset : (bvs (part m k)).set k (.int .u8 ((x1 ^^^ x2 ^^^ x3).toNat : Int)) = bvs (part m (k + 1)) := by
        have hkm : k < m.length := by rw [hml'.out]; exact hlt
        have h4 : m[k] = x1 ^^^ x2 ^^^ x3 := by rw [List.getElem?_eq_getElem hkm] at hmk; injection hmk
        rw [← part_step m k hkm, h4]
        unfold bvs
        rw [List.map_set]
        rfl
      have hset' := Lib.hid hset
      have hx := Lib.hid (show Go.bits .xor .u8 (Go.bits .xor .u8 (x1.toNat : Int) (x2.toNat : Int)) (x3.toNat : Int) = ((x1 ^^^ x2 ^^^ x3).toNat : Int) by rw [bits8', bits8'])
      have hpl := Lib.hid (part_length m k (by rw [hml'.out]; omega))
      have p1' := Lib.hid p1
      have p2' := Lib.hid p2
      have p3' := Lib.hid p3
      clear p1 p2 p3 q1 q2 q3 hmk hset
      have hlt2 : (k : Int) < (l2.length : Int) := by omega
      have hlt3 : (k : Int) < (l3.length : Int) := by omega
      have hlt1 : (k : Int) < (l1.length : Int) := by omega
      have hk0 : (0 : Int) ≤ (k : Int) := by omega
      go_wp2
      refine wp_region_held_drew (S := Ctx _ _ ([]) ([slR (.slice (some e1) l1.length c1) l1.length (bvs l1), slR (.slice (some e2) l2.length c2) l2.length (bvs l2), slR (.slice (some e3) l3.length c3) l3.length (bvs l3)])) (by kernel_rfl) ⟨[_], [], hst.drew⟩ (fun hHeld => ?_)
      replace hst := hst.drew
      generalize World.drew _ = wd at hst hHeld ⊢; clear hHeld
      refine takeL 0 rfl (v := ?_) (by kernel_rfl) (by kernel_rfl) (by kernel_rfl) (by exact fun _ _ _ h => h) (Or.inl ⟨by rfl, ?_⟩) ⟨[_], [], hst⟩ ?_
      rotate_left 1
      · intro w' hSw; go_simp; try with_reducible rfl
      try simp only [Act.put, List.setIfInBounds_toArray, List.set_cons_zero, List.set_cons_succ]
      refine takeL 1 rfl (v := ?_) (by kernel_rfl) (by kernel_rfl) (by kernel_rfl) (by exact fun _ _ _ h => h) (Or.inl ⟨by rfl, ?_⟩) ⟨[_], [], hst⟩ ?_
      rotate_left 1
      · intro w' hSw; go_simp; try with_reducible rfl
      try simp only [Act.put, List.setIfInBounds_toArray, List.set_cons_zero, List.set_cons_succ]
      refine takeL 2 rfl (v := ?_) (by kernel_rfl) (by kernel_rfl) (by kernel_rfl) (by exact fun _ _ _ h => h) (Or.inl ⟨by rfl, ?_⟩) ⟨[_], [], hst⟩ ?_
      rotate_left 1
      · intro w' hSw; go_simp; try with_reducible rfl
      try simp only [Act.put, List.setIfInBounds_toArray, List.set_cons_zero, List.set_cons_succ]
      refine takeL 3 rfl (v := ?_) (by kernel_rfl) (by kernel_rfl) (by kernel_rfl) (by exact fun _ _ _ h => h) (Or.inl ⟨by rfl, ?_⟩) ⟨[_], [], hst⟩ ?_
      rotate_left 1
      · intro w' hSw; go_simp; try with_reducible rfl
      try simp only [Act.put, List.setIfInBounds_toArray, List.set_cons_zero, List.set_cons_succ]
      refine takeL 4 rfl (v := ?_) (by kernel_rfl) (by kernel_rfl) (by kernel_rfl) (by exact fun _ _ _ h => h) (Or.inl ⟨by rfl, ?_⟩) ⟨[_], [], hst⟩ ?_
      rotate_left 1
      · intro w' hSw; go_simp; try with_reducible rfl
      try simp only [Act.put, List.setIfInBounds_toArray, List.set_cons_zero, List.set_cons_succ]
      refine takeL 5 rfl (by kernel_rfl) (by kernel_rfl) (by kernel_rfl) (by exact fun _ _ _ h => h) (y_loadSl (by rfl) rfl rfl (Rds.slG 0 rfl) (fun _ => Try.isAgg5 _) p1'.out) ⟨[_], [], hst⟩ ?_
      try simp only [Act.put, List.setIfInBounds_toArray, List.set_cons_zero, List.set_cons_succ]
      refine takeL 6 rfl (v := ?_) (by kernel_rfl) (by kernel_rfl) (by kernel_rfl) (by exact fun _ _ _ h => h) (Or.inl ⟨by rfl, ?_⟩) ⟨[_], [], hst⟩ ?_
      rotate_left 1
      · intro w' hSw; go_simp; try with_reducible rfl
      try simp only [Act.put, List.setIfInBounds_toArray, List.set_cons_zero, List.set_cons_succ]
      refine takeL 7 rfl (v := ?_) (by kernel_rfl) (by kernel_rfl) (by kernel_rfl) (by exact fun _ _ _ h => h) (Or.inl ⟨by rfl, ?_⟩) ⟨[_], [], hst⟩ ?_
      rotate_left 1
      · intro w' hSw; go_simp; try with_reducible rfl
      try simp only [Act.put, List.setIfInBounds_toArray, List.set_cons_zero, List.set_cons_succ]
      refine takeL 8 rfl (v := ?_) (by kernel_rfl) (by kernel_rfl) (by kernel_rfl) (by exact fun _ _ _ h => h) (Or.inl ⟨by rfl, ?_⟩) ⟨[_], [], hst⟩ ?_
      rotate_left 1
      · intro w' hSw; go_simp; try with_reducible rfl
      try simp only [Act.put, List.setIfInBounds_toArray, List.set_cons_zero, List.set_cons_succ]
      refine takeL 9 rfl (by kernel_rfl) (by kernel_rfl) (by kernel_rfl) (by exact fun _ _ _ h => h) (y_loadSl (by rfl) rfl rfl (Rds.slG 1 rfl) (fun _ => Try.isAgg5 _) p2'.out) ⟨[_], [], hst⟩ ?_
      try simp only [Act.put, List.setIfInBounds_toArray, List.set_cons_zero, List.set_cons_succ]
      refine takeL 10 rfl (v := ?_) (by kernel_rfl) (by kernel_rfl) (by kernel_rfl) (by exact fun _ _ _ h => h) (Or.inl ⟨by rfl, ?_⟩) ⟨[_], [], hst⟩ ?_
      rotate_left 1
      · intro w' hSw; go_simp; try with_reducible rfl
      try simp only [Act.put, List.setIfInBounds_toArray, List.set_cons_zero, List.set_cons_succ]
      refine takeL 11 rfl (v := ?_) (by kernel_rfl) (by kernel_rfl) (by kernel_rfl) (by exact fun _ _ _ h => h) (Or.inl ⟨by rfl, ?_⟩) ⟨[_], [], hst⟩ ?_
      rotate_left 1
      · intro w' hSw; go_simp; try with_reducible rfl
      try simp only [Act.put, List.setIfInBounds_toArray, List.set_cons_zero, List.set_cons_succ]
      refine takeL 12 rfl (v := ?_) (by kernel_rfl) (by kernel_rfl) (by kernel_rfl) (by exact fun _ _ _ h => h) (Or.inl ⟨by rfl, ?_⟩) ⟨[_], [], hst⟩ ?_
      rotate_left 1
      · intro w' hSw; go_simp; try with_reducible rfl
      try simp only [Act.put, List.setIfInBounds_toArray, List.set_cons_zero, List.set_cons_succ]
      refine takeL 13 rfl (v := ?_) (by kernel_rfl) (by kernel_rfl) (by kernel_rfl) (by exact fun _ _ _ h => h) (Or.inl ⟨by rfl, ?_⟩) ⟨[_], [], hst⟩ ?_
      rotate_left 1
      · intro w' hSw; go_simp; try with_reducible rfl
      try simp only [Act.put, List.setIfInBounds_toArray, List.set_cons_zero, List.set_cons_succ]
      refine takeL 14 rfl (by kernel_rfl) (by kernel_rfl) (by kernel_rfl) (by exact fun _ _ _ h => h) (y_loadSl (by rfl) rfl rfl (Rds.slG 2 rfl) (fun _ => Try.isAgg5 _) p3'.out) ⟨[_], [], hst⟩ ?_
      try simp only [Act.put, List.setIfInBounds_toArray, List.set_cons_zero, List.set_cons_succ]
      refine takeL 15 rfl (v := ?_) (by kernel_rfl) (by kernel_rfl) (by kernel_rfl) (by exact fun _ _ _ h => h) (Or.inl ⟨by rfl, ?_⟩) ⟨[_], [], hst⟩ ?_
      rotate_left 1
      · intro w' hSw; go_simp; try with_reducible rfl
      try simp only [Act.put, List.setIfInBounds_toArray, List.set_cons_zero, List.set_cons_succ]
      refine takeL 16 rfl (v := ?_) (by kernel_rfl) (by kernel_rfl) (by kernel_rfl) (by exact fun _ _ _ h => h) (Or.inl ⟨by rfl, ?_⟩) ⟨[_], [], hst⟩ ?_
      rotate_left 1
      · intro w' hSw; go_simp; try with_reducible rfl
      try simp only [Act.put, List.setIfInBounds_toArray, List.set_cons_zero, List.set_cons_succ]
      refine nextL 17 rfl (by kernel_rfl) (fun K hK => ?_)
      refine r_storeAt hst 0 (by rfl) rfl rfl rfl (v := .int .u8 (Go.bits .xor .u8 (Go.bits .xor .u8 (x1.toNat : Int) (x2.toNat : Int)) (x3.toNat : Int))) rfl (fun _ => Try.sizeOf5 _) rfl (by rw [bvs_length, hpl.out, hml'.out]; exact hlt) ?_
      clear hst; intro w2 hst; simp only [List.set_cons_zero] at hst; rw [hx.out, hset'.out] at hst; try simp only [Act.eval, Act.put, List.setIfInBounds_toArray, List.set_cons_zero, List.set_cons_succ, Array.getD_eq_getD_getElem?, List.getElem?_toArray, List.getElem?_cons_zero, List.getElem?_cons_succ, Option.getD_some, Value.cells, List.toList_toArray] at hst ⊢
      refine hK.out _ _ ⟨[_], [], hst⟩ (fun _ => ?_); clear hK K
      try simp only [Act.put, List.setIfInBounds_toArray, List.set_cons_zero, List.set_cons_succ]
      refine wpAnyH_done (by kernel_rfl) ?_ _
      go_wp2
      go_roundw
      case rel => exact ⟨k + 1, by omega, by go_num, hst⟩
      case measure => simp [intOf]; omega
    · have hk' : k = l1.length := by omega
      subst hk'
      clear hlt
      rw [← hml'.out, part_all, hml'.out] at hst
      go_wp2
      have q2 : l1.length ≤ c2 := by omega
      have q3 : l1.length ≤ c3 := by omega
      refine wp_region_held_drew (S := Ctx _ _ ([cellsR bx (bvs m) 5]) ([slR (.slice A1 l1.length c1) l1.length (bvs l1), slR (.slice A2 l2.length c2) l2.length (bvs l2), slR (.slice A3 l3.length c3) l3.length (bvs l3)])) (by kernel_rfl) ⟨[], [], hst.drew⟩ (fun hHeld => ?_)
      replace hst := hst.drew
      generalize World.drew _ = wd at hst hHeld ⊢; clear hHeld
      refine takeL 0 rfl (v := ?_) (by kernel_rfl) (by kernel_rfl) (by kernel_rfl) (by exact fun _ _ _ h => h) (Or.inl ⟨by rfl, ?_⟩) ⟨[], [], hst⟩ ?_
      rotate_left 1
      · intro w' hSw; go_simp; try with_reducible rfl
      try simp only [Act.put, List.setIfInBounds_toArray, List.set_cons_zero, List.set_cons_succ]
      refine takeL 3 rfl (v := ?_) (by kernel_rfl) (by kernel_rfl) (by kernel_rfl) (by exact fun _ _ _ h => h) (Or.inl ⟨by rfl, ?_⟩) ⟨[], [], hst⟩ ?_
      rotate_left 1
      · intro w' hSw; go_simp; try with_reducible rfl
      try simp only [Act.put, List.setIfInBounds_toArray, List.set_cons_zero, List.set_cons_succ]
      refine takeL 6 rfl (v := ?_) (by kernel_rfl) (by kernel_rfl) (by kernel_rfl) (by exact fun _ _ _ h => h) (Or.inl ⟨by rfl, ?_⟩) ⟨[], [], hst⟩ ?_
      rotate_left 1
      · intro w' hSw; go_simp; try with_reducible rfl
      try simp only [Act.put, List.setIfInBounds_toArray, List.set_cons_zero, List.set_cons_succ]
      refine takeL 7 rfl (v := ?_) (by kernel_rfl) (by kernel_rfl) (by kernel_rfl) (by exact fun _ _ _ h => h) (Or.inl ⟨by rfl, ?_⟩) ⟨[], [], hst⟩ ?_
      rotate_left 1
      · intro w' hSw; go_simp; try with_reducible rfl
      try simp only [Act.put, List.setIfInBounds_toArray, List.set_cons_zero, List.set_cons_succ]
      refine takeL 8 rfl (v := ?_) (by kernel_rfl) (by kernel_rfl) (by kernel_rfl) (by exact fun _ _ _ h => h) (Or.inl ⟨by rfl, ?_⟩) ⟨[], [], hst⟩ ?_
      rotate_left 1
      · intro w' hSw; go_simp; try with_reducible rfl
      try simp only [Act.put, List.setIfInBounds_toArray, List.set_cons_zero, List.set_cons_succ]
      refine takeL 9 rfl (v := ?_) (by kernel_rfl) (by kernel_rfl) (by kernel_rfl) (by exact fun _ _ _ h => h) (Or.inl ⟨by rfl, ?_⟩) ⟨[], [], hst⟩ ?_
      rotate_left 1
      · intro w' hSw; go_simp; try with_reducible rfl
      try simp only [Act.put, List.setIfInBounds_toArray, List.set_cons_zero, List.set_cons_succ]
      refine takeL 13 rfl (v := ?_) (by kernel_rfl) (by kernel_rfl) (by kernel_rfl) (by exact fun _ _ _ h => h) (Or.inl ⟨by rfl, ?_⟩) ⟨[], [], hst⟩ ?_
      rotate_left 1
      · intro w' hSw; go_simp; try with_reducible rfl
      try simp only [Act.put, List.setIfInBounds_toArray, List.set_cons_zero, List.set_cons_succ]
      refine takeL 14 rfl (v := ?_) (by kernel_rfl) (by kernel_rfl) (by kernel_rfl) (by exact fun _ _ _ h => h) (Or.inl ⟨by rfl, ?_⟩) ⟨[], [], hst⟩ ?_
      rotate_left 1
      · intro w' hSw; go_simp; try with_reducible rfl
      try simp only [Act.put, List.setIfInBounds_toArray, List.set_cons_zero, List.set_cons_succ]
      refine takeL 15 rfl (v := ?_) (by kernel_rfl) (by kernel_rfl) (by kernel_rfl) (by exact fun _ _ _ h => h) (Or.inl ⟨by rfl, ?_⟩) ⟨[], [], hst⟩ ?_
      rotate_left 1
      · intro w' hSw; go_simp; try with_reducible rfl
      try simp only [Act.put, List.setIfInBounds_toArray, List.set_cons_zero, List.set_cons_succ]
      refine takeL 16 rfl (v := ?_) (by kernel_rfl) (by kernel_rfl) (by kernel_rfl) (by exact fun _ _ _ h => h) (Or.inl ⟨by rfl, ?_⟩) ⟨[], [], hst⟩ ?_
      rotate_left 1
      · intro w' hSw; go_simp; try with_reducible rfl
      try simp only [Act.put, List.setIfInBounds_toArray, List.set_cons_zero, List.set_cons_succ]
      have hl1 := Lib.hid (show (l2.take l1.length).length = l1.length by rw [List.length_take]; omega)
      have hl2 := Lib.hid (show (l3.take l1.length).length = l1.length by rw [List.length_take]; omega)
      have hmix := Lib.hid (show crc l1 ^^^ crc (l2.take l1.length) ^^^ crc (l3.take l1.length) = crc m by rw [hm'.out, crc_mixes _ _ _ (by rw [hl1.out]) (by rw [hl2.out])])
      refine rinv0 [Told.lit 1 55 1 [.slice (some ⟨bx, 0, none⟩) l1.length l1.length] 22, Told.val 2 56 (.int .u32 (iv (crc m))), Told.lit 4 58 1 [.slice A1 l1.length c1] 22, Told.val 5 59 (.int .u32 (iv (crc l1))),
        Told.lit 10 64 1 [.slice A2 l1.length c2] 22, Told.val 11 65 (.int .u32 (iv (crc (l2.take l1.length)))), Told.val 12 66 (.int .u32 (iv (crc l1 ^^^ crc (l2.take l1.length)))), Told.lit 17 71 1 [.slice A3 l1.length c3] 22,
        Told.val 18 72 (.int .u32 (iv (crc (l3.take l1.length)))), Told.val 19 73 (.int .u32 (iv (crc m))), Told.val 20 74 (.bool true), Told.val 21 6 (.bool true)] (by kernel_rfl) (by kernel_rfl) (Nat.le_of_ble_eq_true (by kernel_rfl)) hst (by kernel_rfl) ?obs ?hend
      case hend =>
        rintro listed a w2 hall ⟨hd, hs, hb, G', hst, ht⟩
        have e := ht (Told.val 21 6 (.bool true)) (by simp) (hall 21 (by decide))
        change a.eval (.tmp 6) = _ at e
        have hd' : a.defers = [] := hd
        have hbel := hst.below
        clear hd hs hb ht hst hall
        apply_assumption
        change a.tmps.getD 6 undef = _ at e
        refine wp_ret ?_
        refine bodyPost_ret (P := Try.prog) (fn := Try.f5) (a := a) (results_tmp (t := 6) rfl a.tmps _ _) hd' ?_
        rw [e]
        exact ⟨rfl, hbel⟩
      case obs =>
        refine ⟨Ob.skip (by kernel_rfl), ?o1, ?o2, Ob.skip (by kernel_rfl), ?o4, ?o5, Ob.skip (by kernel_rfl), Ob.skip (by kernel_rfl), Ob.skip (by kernel_rfl), Ob.skip (by kernel_rfl), ?o10, ?o11, ?o12, Ob.skip (by kernel_rfl), Ob.skip (by kernel_rfl), Ob.skip (by kernel_rfl), Ob.skip (by kernel_rfl), ?o17, ?o18, ?o19, ?o20, ?o21, trivial⟩
        case o1 =>
          rintro listed a w2 h1 h2 h3 ⟨hd, hs, hb, G', hst, ht⟩
          have e := base_of hb 54 rfl rfl
          refine r_lit1 hst (by rfl) rfl Try.underlying38 e (fun _ => Try.sizeOf22 _) rfl (fun _ => Try.zeroValue22 _) (by decide) ?_
          intro b w3 hst
          have hst := hst.toFact
          exact RInv.lay hd hs hb ht (G'' := _ :: G') hst (fun g hg => List.mem_cons_of_mem _ hg) 0 rfl (by rfl) (Nat.le_of_ble_eq_true rfl) ⟨b, rfl, List.mem_cons_self⟩
        case o2 =>
          rintro listed a w2 h1 h2 h3 ⟨hd, hs, hb, G', hst, ht⟩
          obtain ⟨b, e, hc⟩ := ht (Told.lit 1 55 1 [.slice (some ⟨bx, 0, none⟩) l1.length l1.length] 22) (by simp) (dep_of h3 1 (by kernel_rfl))
          change a.eval (.tmp 55) = _ at e
          refine opK_call (fun _ _ => by simp [go_sem]) rfl rfl (use_call (sum_any _ [.slice (some ⟨bx, 0, none⟩) l1.length l1.length] [m] _ ((Rds.cells (.inr hc) 1 1).sl hst) ⟨⟨by rw [hml'.out]; exact (Rds.ofCells 0 rfl l1.length l1.length).sl hst, by rw [hml'.out]; omega⟩, trivial⟩ (by simp)) (by simp [e]) (fun _ _ h => h)) ?_
          rintro e2 w3 ⟨rfl, rfl⟩
          refine ⟨_, rfl, ?_⟩
          exact RInv.lay hd hs hb ht (G'' := G') hst (fun g hg => hg) 1 rfl (by rfl) (Nat.le_of_ble_eq_true rfl) (by show Value.int .u32 _ = Value.int .u32 _; simp)
        case o4 =>
          rintro listed a w2 h1 h2 h3 ⟨hd, hs, hb, G', hst, ht⟩
          have e := base_of hb 57 rfl rfl
          refine r_lit1 hst (by rfl) rfl Try.underlying38 e (fun _ => Try.sizeOf22 _) rfl (fun _ => Try.zeroValue22 _) (by decide) ?_
          intro b w3 hst
          have hst := hst.toFact
          exact RInv.lay hd hs hb ht (G'' := _ :: G') hst (fun g hg => List.mem_cons_of_mem _ hg) 2 rfl (by rfl) (Nat.le_of_ble_eq_true rfl) ⟨b, rfl, List.mem_cons_self⟩
        case o5 =>
          rintro listed a w2 h1 h2 h3 ⟨hd, hs, hb, G', hst, ht⟩
          obtain ⟨b, e, hc⟩ := ht (Told.lit 4 58 1 [.slice A1 l1.length c1] 22) (by simp) (dep_of h3 4 (by kernel_rfl))
          change a.eval (.tmp 58) = _ at e
          refine opK_call (fun _ _ => by simp [go_sem]) rfl rfl (use_call (sum_any _ [.slice A1 l1.length c1] [l1] _ ((Rds.cells (.inr hc) 1 1).sl hst) ⟨⟨((Rds.slG 0 rfl : Rds [cellsR bx (bvs m) 5] [slR (.slice A1 l1.length c1) l1.length (bvs l1), slR (.slice A2 l2.length c2) l2.length (bvs l2), slR (.slice A3 l3.length c3) l3.length (bvs l3)] _ _ _).mono (fun r h => .inl h) (fun r h => List.mem_append_right _ h)).sl hst, by omega⟩, trivial⟩ (by simp)) (by simp [e]) (fun _ _ h => h)) ?_
          rintro e2 w3 ⟨rfl, rfl⟩
          refine ⟨_, rfl, ?_⟩
          exact RInv.lay hd hs hb ht (G'' := G') hst (fun g hg => hg) 3 rfl (by rfl) (Nat.le_of_ble_eq_true rfl) (by show Value.int .u32 _ = Value.int .u32 _; simp)
        case o10 =>
          rintro listed a w2 h1 h2 h3 ⟨hd, hs, hb, G', hst, ht⟩
          have e := base_of hb 63 rfl rfl
          refine r_lit1 hst (by rfl) rfl Try.underlying38 e (fun _ => Try.sizeOf22 _) rfl (fun _ => Try.zeroValue22 _) (by decide) ?_
          intro b w3 hst
          have hst := hst.toFact
          exact RInv.lay hd hs hb ht (G'' := _ :: G') hst (fun g hg => List.mem_cons_of_mem _ hg) 4 rfl (by rfl) (Nat.le_of_ble_eq_true rfl) ⟨b, rfl, List.mem_cons_self⟩
        case o11 =>
          rintro listed a w2 h1 h2 h3 ⟨hd, hs, hb, G', hst, ht⟩
          obtain ⟨b, e, hc⟩ := ht (Told.lit 10 64 1 [.slice A2 l1.length c2] 22) (by simp) (dep_of h3 10 (by kernel_rfl))
          change a.eval (.tmp 64) = _ at e
          refine opK_call (fun _ _ => by simp [go_sem]) rfl rfl (use_call (sum_any _ [.slice A2 l1.length c2] [l2.take l1.length] _ ((Rds.cells (.inr hc) 1 1).sl hst) ⟨⟨by rw [hl1.out]; exact (Rds.take (m := l1.length) ((Rds.slG 1 rfl : Rds [cellsR bx (bvs m) 5] [slR (.slice A1 l1.length c1) l1.length (bvs l1), slR (.slice A2 l2.length c2) l2.length (bvs l2), slR (.slice A3 l3.length c3) l3.length (bvs l3)] _ _ _).mono (fun r h => .inl h) (fun r h => List.mem_append_right _ h)) rfl (by omega)).sl hst, by rw [hl1.out]; omega⟩, trivial⟩ (by simp)) (by simp [e]) (fun _ _ h => h)) ?_
          rintro e2 w3 ⟨rfl, rfl⟩
          refine ⟨_, rfl, ?_⟩
          exact RInv.lay hd hs hb ht (G'' := G') hst (fun g hg => hg) 5 rfl (by rfl) (Nat.le_of_ble_eq_true rfl) (by show Value.int .u32 _ = Value.int .u32 _; simp)
        case o17 =>
          rintro listed a w2 h1 h2 h3 ⟨hd, hs, hb, G', hst, ht⟩
          have e := base_of hb 70 rfl rfl
          refine r_lit1 hst (by rfl) rfl Try.underlying38 e (fun _ => Try.sizeOf22 _) rfl (fun _ => Try.zeroValue22 _) (by decide) ?_
          intro b w3 hst
          have hst := hst.toFact
          exact RInv.lay hd hs hb ht (G'' := _ :: G') hst (fun g hg => List.mem_cons_of_mem _ hg) 7 rfl (by rfl) (Nat.le_of_ble_eq_true rfl) ⟨b, rfl, List.mem_cons_self⟩
        case o18 =>
          rintro listed a w2 h1 h2 h3 ⟨hd, hs, hb, G', hst, ht⟩
          obtain ⟨b, e, hc⟩ := ht (Told.lit 17 71 1 [.slice A3 l1.length c3] 22) (by simp) (dep_of h3 17 (by kernel_rfl))
          change a.eval (.tmp 71) = _ at e
          refine opK_call (fun _ _ => by simp [go_sem]) rfl rfl (use_call (sum_any _ [.slice A3 l1.length c3] [l3.take l1.length] _ ((Rds.cells (.inr hc) 1 1).sl hst) ⟨⟨by rw [hl2.out]; exact (Rds.take (m := l1.length) ((Rds.slG 2 rfl : Rds [cellsR bx (bvs m) 5] [slR (.slice A1 l1.length c1) l1.length (bvs l1), slR (.slice A2 l2.length c2) l2.length (bvs l2), slR (.slice A3 l3.length c3) l3.length (bvs l3)] _ _ _).mono (fun r h => .inl h) (fun r h => List.mem_append_right _ h)) rfl (by omega)).sl hst, by rw [hl2.out]; omega⟩, trivial⟩ (by simp)) (by simp [e]) (fun _ _ h => h)) ?_
          rintro e2 w3 ⟨rfl, rfl⟩
          refine ⟨_, rfl, ?_⟩
          exact RInv.lay hd hs hb ht (G'' := G') hst (fun g hg => hg) 8 rfl (by rfl) (Nat.le_of_ble_eq_true rfl) (by show Value.int .u32 _ = Value.int .u32 _; simp)
        case o12 =>
          rintro listed a w2 h1 h2 h3 ⟨hd, hs, hb, G', hst, ht⟩
          have e0 := ht (Told.val 5 59 (.int .u32 (iv (crc l1)))) (by simp) (dep_of h3 5 (by kernel_rfl))
          have e1 := ht (Told.val 11 65 (.int .u32 (iv (crc (l2.take l1.length))))) (by simp) (dep_of h3 11 (by kernel_rfl))
          change a.eval (.tmp 59) = _ at e0
          change a.eval (.tmp 65) = _ at e1
          refine wpl (by rfl) (v := .int .u32 (iv (crc l1 ^^^ crc (l2.take l1.length)))) (w' := w2) (by generalize a.eval = ev at e0 e1 ⊢; go_simp; try simp [e0, e1, bits_xor, go_sem]) ?_
          exact RInv.lay hd hs hb ht (G'' := G') hst (fun g hg => hg) 6 rfl (by rfl) (Nat.le_of_ble_eq_true rfl) rfl
        case o19 =>
          rintro listed a w2 h1 h2 h3 ⟨hd, hs, hb, G', hst, ht⟩
          have e0 := ht (Told.val 12 66 (.int .u32 (iv (crc l1 ^^^ crc (l2.take l1.length))))) (by simp) (dep_of h3 12 (by kernel_rfl))
          have e1 := ht (Told.val 18 72 (.int .u32 (iv (crc (l3.take l1.length))))) (by simp) (dep_of h3 18 (by kernel_rfl))
          change a.eval (.tmp 66) = _ at e0
          change a.eval (.tmp 72) = _ at e1
          refine wpl (by rfl) (v := .int .u32 (iv (crc m))) (w' := w2) (by generalize a.eval = ev at e0 e1 ⊢; go_simp; try simp [e0, e1, bits_xor, hmix.out, go_sem]) ?_
          exact RInv.lay hd hs hb ht (G'' := G') hst (fun g hg => hg) 9 rfl (by rfl) (Nat.le_of_ble_eq_true rfl) rfl
        case o20 =>
          rintro listed a w2 h1 h2 h3 ⟨hd, hs, hb, G', hst, ht⟩
          have e0 := ht (Told.val 2 56 (.int .u32 (iv (crc m)))) (by simp) (dep_of h3 2 (by kernel_rfl))
          have e1 := ht (Told.val 19 73 (.int .u32 (iv (crc m)))) (by simp) (dep_of h3 19 (by kernel_rfl))
          change a.eval (.tmp 56) = _ at e0
          change a.eval (.tmp 73) = _ at e1
          refine wpl (by rfl) (v := .bool true) (w' := w2) (by generalize a.eval = ev at e0 e1 ⊢; go_simp; try simp [e0, e1, go_sem]) ?_
          exact RInv.lay hd hs hb ht (G'' := G') hst (fun g hg => hg) 10 rfl (by rfl) (Nat.le_of_ble_eq_true rfl) rfl
        case o21 =>
          rintro listed a w2 h1 h2 h3 ⟨hd, hs, hb, G', hst, ht⟩
          have e0 := ht (Told.val 20 74 (.bool true)) (by simp) (dep_of h3 20 (by kernel_rfl))
          change a.eval (.tmp 74) = _ at e0
          refine wpl (by rfl) (v := .bool true) (w' := w2) (by generalize a.eval = ev at e0 ⊢; go_simp; try simp [e0, go_sem]) ?_
          exact RInv.lay hd hs hb ht (G'' := G') hst (fun g hg => hg) 11 rfl (by rfl) (Nat.le_of_ble_eq_true rfl) rfl

theorem CrcMixes_walk (v1 v2 v3 : Value) (l1 l2 l3 : List UInt8) (w : World) (h1 : Sl w v1 l1.length (bvs l1)) (h2 : Sl w v2 l2.length (bvs l2)) (h3 : Sl w v3 l3.length (bvs l3))
    (m1 : l1.length ≤ 9223372036854775807) (m2 : l2.length ≤ 9223372036854775807) (m3 : l3.length ≤ 9223372036854775807) :
    Calls Try.prog 5 #[v1, v2, v3] w fun e w' => e = .returned (.bool true) ∧ Below w.heap.size w w' := by
  by_cases g1 : l1.length ≤ 8192
  · by_cases g2 : l1.length ≤ l2.length
    · by_cases g3 : l1.length ≤ l3.length
      · exact mixes_main v1 v2 v3 l1 l2 l3 w h1 h2 h3 g1 g2 g3 m2 m3
      · have hst := (((St.start w).arg h3).arg h2).arg h1
        obtain ⟨A1, c1, rfl, -, -⟩ := h1
        obtain ⟨A2, c2, rfl, -, -⟩ := h2
        obtain ⟨A3, c3, rfl, -, -⟩ := h3
        have d1 : decide (8192 < (l1.length : Int)) = false := by simp; omega
        have d2 : decide ((l2.length : Int) < (l1.length : Int)) = false := by simp; omega
        have d3 : decide ((l3.length : Int) < (l1.length : Int)) = true := by simp; omega
        go_enter Try.func5, Try.ntmps5
        go_wp2_with (go_at_call 9; refine use_call (alive_any _ _ _ _ _ hst) rfl ?_; clear hst; rintro e w1 ⟨rfl, hst⟩)
        go_ret
        exact ⟨by simp, hst.below⟩
    · have hst := (((St.start w).arg h3).arg h2).arg h1
      obtain ⟨A1, c1, rfl, -, -⟩ := h1
      obtain ⟨A2, c2, rfl, -, -⟩ := h2
      obtain ⟨A3, c3, rfl, -, -⟩ := h3
      have d1 : decide (8192 < (l1.length : Int)) = false := by simp; omega
      have d2 : decide ((l2.length : Int) < (l1.length : Int)) = true := by simp; omega
      go_enter Try.func5, Try.ntmps5
      go_wp2_with (go_at_call 9; refine use_call (alive_any _ _ _ _ _ hst) rfl ?_; clear hst; rintro e w1 ⟨rfl, hst⟩)
      go_ret
      exact ⟨by simp, hst.below⟩
  · have hst := (((St.start w).arg h3).arg h2).arg h1
    obtain ⟨A1, c1, rfl, -, -⟩ := h1
    obtain ⟨A2, c2, rfl, -, -⟩ := h2
    obtain ⟨A3, c3, rfl, -, -⟩ := h3
    have d1 : decide (8192 < (l1.length : Int)) = true := by simp; omega
    go_enter Try.func5, Try.ntmps5
    go_wp2_with (go_at_call 9; refine use_call (alive_any _ _ _ _ _ hst) rfl ?_; clear hst; rintro e w1 ⟨rfl, hst⟩)
    go_ret
    exact ⟨by simp, hst.below⟩
end Go.Proofs.Ytphnnhbneinejaa.CW
