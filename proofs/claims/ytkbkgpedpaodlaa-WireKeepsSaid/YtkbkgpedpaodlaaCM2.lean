/- The check of bytes, in plain words: bit by bit; a short burst is told. -/
import Derived.Test.YtkbkgpedpaodlaaCM
set_option linter.unusedVariables false
set_option linter.unusedSimpArgs false
namespace Go.Proofs.Ytkbkgpedpaodlaa.CM

/-- A check's four bytes, the lowest first. -/
def le4 (c : W32) : List UInt8 := [UInt8.ofNat c.toNat, UInt8.ofNat (c.toNat / 256), UInt8.ofNat (c.toNat / 65536), UInt8.ofNat (c.toNat / 16777216)]
theorem le4_length (c : W32) : (le4 c).length = 4 := rfl
def sealed (l : List UInt8) : List UInt8 := l ++ le4 (crc l)
theorem sealed_length (l : List UInt8) : (sealed l).length = l.length + 4 := by simp [sealed, le4_length]

/-- Bit n of bytes, of each byte the lowest first, is turned. -/
def flipB (l : List UInt8) (n : Nat) : List UInt8 := l.set (n / 8) (l.getD (n / 8) 0 ^^^ UInt8.ofNat (2 ^ (n % 8)))
theorem flipB_length (l : List UInt8) (n : Nat) : (flipB l n).length = l.length := by simp [flipB]
/-- The bits that 'bits' names are turned, from bit a on, the first k of them. -/
def turned (l : List UInt8) (a : Nat) (bits : W32) : Nat → List UInt8
  | 0 => l
  | k + 1 => if bits.getLsbD k then flipB (turned l a bits k) (a + k) else turned l a bits k
theorem turned_length (l : List UInt8) (a : Nat) (bits : W32) (k : Nat) : (turned l a bits k).length = l.length := by
  induction k with
  | zero => rfl
  | succ k ih => unfold turned; split <;> simp [flipB_length, ih]

/-! ### Bit by bit -/
def one (b : Bool) : W32 := if b then 1#32 else 0#32
def regb (c : W32) : List Bool → W32
  | [] => c
  | b :: l => regb (turn1 (c ^^^ one b)) l
theorem regb_append (c : W32) (l m : List Bool) : regb c (l ++ m) = regb (regb c l) m := by
  induction l generalizing c with
  | nil => rfl
  | cons x l ih => exact ih _
theorem turns_one : ∀ n : Fin 32, turns n.val ((1#32 : W32) <<< n.val) = 1#32 := by decide +kernel
/-- The lowest n bits. -/
def low (d : W32) : Nat → W32
  | 0 => 0#32
  | n + 1 => low d n ^^^ (one (d.getLsbD n) <<< n)
theorem low_get (d : W32) (n i : Nat) (hn : n ≤ 32) : (low d n).getLsbD i = (decide (i < n) && d.getLsbD i) := by
  induction n with
  | zero => simp [low]
  | succ n ih =>
    unfold low
    rw [BitVec.getLsbD_xor, ih (by omega), BitVec.getLsbD_shiftLeft]
    have h1 : (one (d.getLsbD n)).getLsbD (i - n) = (d.getLsbD n && decide (i - n = 0)) := by
      unfold one
      cases d.getLsbD n
      · simp
      · simp [BitVec.getLsbD_one]
    rw [h1]
    by_cases h : i < n
    · have : i < n + 1 := by omega
      simp [h, this]
    · by_cases h2 : i = n
      · subst h2
        have : i < 32 := by omega
        simp [this]
      · have h3 : ¬ i < n + 1 := by omega
        have h4 : ¬ i - n = 0 := by omega
        simp [h, h3, h4]
theorem low_all (d : W32) : low d 32 = d := by
  apply BitVec.eq_of_getLsbD_eq
  intro i hi
  rw [low_get d 32 i (by omega)]
  simp [hi]
theorem low_wide (x : UInt8) : low (wide x) 8 = wide x := by
  apply BitVec.eq_of_getLsbD_eq
  intro i hi
  rw [low_get _ 8 i (by omega)]
  by_cases h : i < 8
  · simp [h]
  · have : (wide x).getLsbD i = false := by
      unfold wide
      rw [BitVec.getLsbD_setWidth]
      simp [BitVec.getLsbD_of_ge x.toBitVec i (by omega)]
    simp [h, this]
def bitsN (d : W32) (n : Nat) : List Bool := (List.range n).map d.getLsbD
theorem bitsN_succ (d : W32) (n : Nat) : bitsN d (n + 1) = bitsN d n ++ [d.getLsbD n] := by simp [bitsN, List.range_succ]
theorem regb_bitsN (c d : W32) (n : Nat) (hn : n ≤ 32) : regb c (bitsN d n) = turns n (c ^^^ low d n) := by
  induction n with
  | zero => simp [bitsN, regb, turns, low]
  | succ n ih =>
    rw [bitsN_succ, regb_append, ih (by omega)]
    show turn1 (turns n (c ^^^ low d n) ^^^ one (d.getLsbD n)) = turn1 (turns n (c ^^^ low d (n + 1)))
    congr 1
    show _ = turns n (c ^^^ (low d n ^^^ (one (d.getLsbD n) <<< n)))
    rw [← BitVec.xor_assoc, turns_xor n (c ^^^ low d n)]
    congr 1
    unfold one
    split
    · exact (turns_one ⟨n, by omega⟩).symm
    · rw [BitVec.zero_shiftLeft, turns_zero]
def bitsOf (l : List UInt8) : List Bool := l.flatMap fun x => bitsN (wide x) 8
theorem reg_bits (c : W32) (l : List UInt8) : reg c l = regb c (bitsOf l) := by
  induction l generalizing c with
  | nil => rfl
  | cons x l ih =>
    show reg (turns 8 (c ^^^ wide x)) l = regb c (bitsN (wide x) 8 ++ bitsOf l)
    rw [ih, regb_append, regb_bitsN _ _ 8 (by omega), low_wide]
theorem regb_zeros (c : W32) (n : Nat) : regb c (List.replicate n false) = turns n c := by
  induction n generalizing c with
  | zero => rfl
  | succ n ih =>
    rw [List.replicate_succ, turns_succ']
    show regb (turn1 (c ^^^ one false)) _ = _
    rw [ih]
    simp [one]

/-! ### Which bit stands where -/
def bit (l : List UInt8) (i : Nat) : Bool := (wide (l.getD (i / 8) 0)).getLsbD (i % 8)
theorem bitsOf_eq (l : List UInt8) : bitsOf l = (List.range (8 * l.length)).map (bit l) := by
  induction l with
  | nil => rfl
  | cons x l ih =>
    show bitsN (wide x) 8 ++ bitsOf l = _
    rw [ih]
    have h : 8 * (x :: l).length = 8 + 8 * l.length := by simp; omega
    rw [h, List.range_add, List.map_append, List.map_map]
    have e1 : bitsN (wide x) 8 = (List.range 8).map (bit (x :: l)) := by
      unfold bitsN
      apply List.map_congr_left
      intro i hi
      have := List.mem_range.1 hi
      simp [bit, Nat.div_eq_of_lt this, Nat.mod_eq_of_lt this]
    rw [e1]
    congr 1
    · apply List.map_congr_left
      intro i hi
      have h1 : (8 + i) / 8 = i / 8 + 1 := by omega
      have h2 : (8 + i) % 8 = i % 8 := by omega
      simp [bit, h1, h2]
theorem wide_bit (x : UInt8) (i : Nat) (h : i < 8) : (wide x).getLsbD i = x.toNat.testBit i := by
  unfold wide
  rw [BitVec.getLsbD_setWidth]
  have h1 : i < 32 := by omega
  simp [h1, BitVec.getLsbD]
theorem pow_bit (r i : Nat) (hr : r < 8) (hi : i < 8) : (wide (UInt8.ofNat (2 ^ r))).getLsbD i = decide (i = r) := by
  rw [wide_bit _ _ hi]
  have h : (UInt8.ofNat (2 ^ r)).toNat = 2 ^ r := by
    rw [UInt8.toNat_ofNat']
    apply Nat.mod_eq_of_lt
    exact Nat.pow_lt_pow_right (by omega) hr
  rw [h, Nat.testBit_two_pow]
  exact decide_eq_decide.2 eq_comm
theorem bit_flip (l : List UInt8) (n i : Nat) (hn : n / 8 < l.length) : bit (flipB l n) i = (bit l i ^^ decide (i = n)) := by
  unfold bit flipB
  by_cases h : i / 8 = n / 8
  · rw [h]
    have h1 : (l.set (n / 8) (l.getD (n / 8) 0 ^^^ UInt8.ofNat (2 ^ (n % 8)))).getD (n / 8) 0 = l.getD (n / 8) 0 ^^^ UInt8.ofNat (2 ^ (n % 8)) := by
      simp [List.getD_eq_getElem?_getD, hn]
    rw [h1, wide_xor, BitVec.getLsbD_xor, pow_bit _ _ (by omega) (by omega)]
    congr 1
    exact decide_eq_decide.2 (by omega)
  · have h1 : (l.set (n / 8) (l.getD (n / 8) 0 ^^^ UInt8.ofNat (2 ^ (n % 8)))).getD (i / 8) 0 = l.getD (i / 8) 0 := by
      simp only [List.getD_eq_getElem?_getD]
      rw [List.getElem?_set_ne (fun e => h e.symm)]
    rw [h1]
    have h2 : decide (i = n) = false := by simp; omega
    rw [h2, Bool.xor_false]
theorem bit_turned (l : List UInt8) (a : Nat) (bits : W32) (k : Nat) (h : a + k ≤ 8 * l.length) (i : Nat) :
    bit (turned l a bits k) i = (bit l i ^^ (decide (a ≤ i ∧ i < a + k) && bits.getLsbD (i - a))) := by
  induction k with
  | zero =>
    have : decide (a ≤ i ∧ i < a + 0) = false := decide_eq_false (by omega)
    rw [this]
    simp [turned]
  | succ k ih =>
    have ih := ih (by omega)
    unfold turned
    by_cases hb : bits.getLsbD k = true
    · rw [if_pos hb, bit_flip _ _ _ (by rw [turned_length]; omega), ih]
      by_cases h1 : i = a + k
      · subst h1
        have h2 : ¬ (a ≤ a + k ∧ a + k < a + k) := by omega
        have h3 : a ≤ a + k ∧ a + k < a + (k + 1) := by omega
        simp [hb, h3]
      · have h2 : decide (a ≤ i ∧ i < a + (k + 1)) = decide (a ≤ i ∧ i < a + k) := decide_eq_decide.2 (by omega)
        simp [h1, h2]
    · rw [if_neg hb, ih]
      by_cases h1 : i = a + k
      · subst h1
        have h3 : a ≤ a + k ∧ a + k < a + (k + 1) := by omega
        have hb' : bits.getLsbD k = false := by simpa using hb
        simp [hb']
      · have h2 : decide (a ≤ i ∧ i < a + (k + 1)) = decide (a ≤ i ∧ i < a + k) := decide_eq_decide.2 (by omega)
        rw [h2]
theorem bit_zeros (n i : Nat) : bit (List.replicate n 0) i = false := by
  unfold bit
  have : (List.replicate n (0 : UInt8)).getD (i / 8) 0 = 0 := by
    rw [List.getD_eq_getElem?_getD, List.getElem?_replicate]
    split <;> rfl
  rw [this]
  have h0 : wide 0 = 0#32 := rfl
  rw [h0]
  simp

/-- A burst alone never comes to nothing. -/
theorem burst (n a : Nat) (bits : W32) (h : a + 32 ≤ 8 * n) (hb : bits ≠ 0#32) : reg 0#32 (turned (List.replicate n 0) a bits 32) ≠ 0#32 := by
  rw [reg_bits, bitsOf_eq, turned_length, List.length_replicate]
  have e : (List.range (8 * n)).map (bit (turned (List.replicate n 0) a bits 32)) = List.replicate a false ++ (bitsN bits 32 ++ List.replicate (8 * n - (a + 32)) false) := by
    apply List.ext_getElem
    · simp [bitsN]; omega
    · intro i h1 h2
      rw [List.getElem_map, List.getElem_range, bit_turned _ _ _ _ (by simpa using h), bit_zeros]
      simp only [Bool.false_xor]
      by_cases c1 : i < a
      · have : ¬ (a ≤ i ∧ i < a + 32) := by omega
        rw [List.getElem_append_left (by simpa using c1)]
        simp [this]
      · rw [List.getElem_append_right (by simp; omega)]
        by_cases c2 : i < a + 32
        · have : a ≤ i ∧ i < a + 32 := by omega
          rw [List.getElem_append_left (by simp [bitsN]; omega)]
          simp [bitsN, this]
        · have : ¬ (a ≤ i ∧ i < a + 32) := by omega
          rw [List.getElem_append_right (by simp [bitsN]; omega)]
          simp [this]
  rw [e, regb_append, regb_append, regb_zeros 0#32 a, turns_zero, regb_bitsN _ _ 32 (by omega), low_all, regb_zeros, BitVec.zero_xor]
  intro h0
  exact hb (turns_inj0 (turns_inj0 h0))

/-! ### What is sealed -/
theorem bits_le4 (d : W32) : bitsOf (le4 d) = bitsN d 32 := by
  have h : ∀ j : Nat, j < 4 → bitsN (wide (UInt8.ofNat (d.toNat / 2 ^ (8 * j)))) 8 = (List.range 8).map (fun i => d.getLsbD (8 * j + i)) := by
    intro j hj
    unfold bitsN
    apply List.map_congr_left
    intro i hi
    have hi' := List.mem_range.1 hi
    rw [wide_bit _ _ hi', UInt8.toNat_ofNat']
    rw [Nat.testBit_mod_two_pow]
    simp only [hi', decide_true, Bool.true_and]
    rw [Nat.testBit_div_two_pow]
    show _ = d.toNat.testBit _
    rw [Nat.add_comm]
  have h0 := h 0 (by omega)
  have h1 := h 1 (by omega)
  have h2 := h 2 (by omega)
  have h3 := h 3 (by omega)
  simp only [Nat.mul_zero, Nat.pow_zero, Nat.div_one, Nat.zero_add, Nat.mul_one] at h0 h1
  unfold bitsOf le4
  simp only [List.flatMap_cons, List.flatMap_nil, List.append_nil]
  rw [h0, show (256 : Nat) = 2 ^ 8 from rfl, show (65536 : Nat) = 2 ^ (8 * 2) from rfl, show (16777216 : Nat) = 2 ^ (8 * 3) from rfl, h1, h2, h3]
  rfl
theorem reg_le4 (c d : W32) : reg c (le4 d) = turns 32 (c ^^^ d) := by rw [reg_bits, bits_le4, regb_bitsN _ _ 32 (by omega), low_all]
/-- What stands behind bytes that have their check behind them. -/
theorem reg_sealed (l : List UInt8) : reg (~~~ 0#32) (sealed l) = turns 32 (BitVec.allOnes 32) := by
  unfold sealed
  rw [reg_append, reg_le4]
  congr 1
  unfold crc more
  rw [← BitVec.xor_allOnes (x := reg _ l), ← BitVec.xor_assoc, BitVec.xor_self, BitVec.zero_xor]
theorem xors_length (l m : List UInt8) (h : l.length = m.length) : (xors l m).length = l.length := by simp [xors, h]
theorem flip_xors (l m : List UInt8) (n : Nat) (h : l.length = m.length) : flipB (xors l m) n = xors l (flipB m n) := by
  unfold flipB xors
  apply List.ext_getElem
  · simp
  · intro i h1 h2
    simp only [List.getElem_set, List.getElem_zipWith]
    have hi : i < l.length := by simp at h1; omega
    have hi' : i < m.length := by omega
    by_cases e : n / 8 = i
    · subst e
      simp only [if_true]
      have e1 : (List.zipWith (fun x1 x2 => x1 ^^^ x2) l m).getD (n / 8) 0 = l[n / 8] ^^^ m[n / 8] := by
        rw [List.getD_eq_getElem?_getD, List.getElem?_eq_getElem (by simp; omega)]
        simp
      have e2 : m.getD (n / 8) 0 = m[n / 8] := by
        rw [List.getD_eq_getElem?_getD, List.getElem?_eq_getElem hi']
        rfl
      simp only [e1, e2, UInt8.xor_assoc]
    · simp only [e, if_false]
theorem turned_xors (l : List UInt8) (a : Nat) (bits : W32) (k : Nat) : turned l a bits k = xors l (turned (List.replicate l.length 0) a bits k) := by
  induction k with
  | zero =>
    show l = xors l (List.replicate l.length 0)
    unfold xors
    apply List.ext_getElem
    · simp
    · intro i h1 h2; simp
  | succ k ih =>
    unfold turned
    split
    · rw [ih, flip_xors _ _ _ (by rw [turned_length]; simp)]
    · exact ih
/-- SEALED BYTES IN WHICH BITS WERE TURNED, WITHIN 32 THAT STAND TOGETHER, HAVE ANOTHER CHECK. -/
theorem tells (l p t4 : List UInt8) (a : Nat) (bits : W32) (h : a + 32 ≤ 8 * (l.length + 4)) (hb : bits ≠ 0#32) (he : turned (sealed l) a bits 32 = p ++ t4) : t4 ≠ le4 (crc p) := by
  intro h4
  have h1 : p ++ t4 = sealed p := by rw [h4]; rfl
  have h2 := turned_xors (sealed l) a bits 32
  have h3 := reg_xor (sealed l) (turned (List.replicate (sealed l).length 0) a bits 32) (~~~ 0#32) 0#32 (by rw [turned_length]; simp)
  rw [← h2, he, h1, BitVec.xor_zero, reg_sealed, reg_sealed] at h3
  have h5 : reg 0#32 (turned (List.replicate (sealed l).length 0) a bits 32) = 0#32 := by
    have := congrArg (fun x => turns 32 (BitVec.allOnes 32) ^^^ x) h3
    simp only [← BitVec.xor_assoc, BitVec.xor_self, BitVec.zero_xor] at this
    exact this.symm
  exact burst _ a bits (by rw [sealed_length]; exact h) hb h5
end Go.Proofs.Ytkbkgpedpaodlaa.CM
