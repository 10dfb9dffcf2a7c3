/- The check of bytes, in plain words: its turns, that it is linear, that a short burst is told. -/
import Derived.Laws.BitsLemmas
set_option linter.unusedVariables false
set_option linter.unusedSimpArgs false
namespace Go.Proofs.Ytkbkgpedpaodlaa.CM
open Go

abbrev W32 := BitVec 32
def poly : W32 := 0xedb88320#32
def turn1 (c : W32) : W32 := if c.getLsbD 0 then (c >>> 1) ^^^ poly else c >>> 1
def turns : Nat → W32 → W32
  | 0, c => c
  | n + 1, c => turn1 (turns n c)
theorem turns_succ' (n : Nat) (c : W32) : turns (n + 1) c = turns n (turn1 c) := by
  induction n with
  | zero => rfl
  | succ n ih => show turn1 (turns (n + 1) c) = turn1 (turns n (turn1 c)); rw [ih]
theorem turns_add (m n : Nat) (c : W32) : turns (m + n) c = turns m (turns n c) := by
  induction m with
  | zero => simp [turns]
  | succ m ih => rw [Nat.succ_add]; show turn1 _ = turn1 _; rw [ih]

def wide (x : UInt8) : W32 := x.toBitVec.setWidth 32
/-- The register behind more bytes. -/
def reg (c : W32) : List UInt8 → W32
  | [] => c
  | x :: l => reg (turns 8 (c ^^^ wide x)) l
def more (c : W32) (l : List UInt8) : W32 := ~~~ reg (~~~ c) l
def crc (l : List UInt8) : W32 := more 0#32 l
theorem reg_append (c : W32) (l m : List UInt8) : reg c (l ++ m) = reg (reg c l) m := by
  induction l generalizing c with
  | nil => rfl
  | cons x l ih => exact ih _
theorem more_append (c : W32) (l m : List UInt8) : more c (l ++ m) = more (more c l) m := by
  simp [more, reg_append]

/-! ### Numbers -/
def iv (c : W32) : Int := (c.toNat : Int)
theorem iv_range (c : W32) : 0 ≤ iv c ∧ iv c ≤ 4294967295 := by have := c.isLt; unfold iv; omega
theorem iv_inj {c d : W32} (h : iv c = iv d) : c = d := by unfold iv at h; exact BitVec.eq_of_toNat_eq (by omega)
theorem ofInt_iv (c : W32) : BitVec.ofInt IntKind.u32.bits (iv c) = c := by
  show BitVec.ofInt 32 (c.toNat : Int) = c
  rw [BitVec.ofInt_natCast, BitVec.ofNat_toNat, BitVec.setWidth_eq]
theorem wrap_iv (c : W32) : IntKind.u32.wrap (c.toNat : Int) = iv c := by rw [IntKind.wrap_u32]; have := c.isLt; unfold iv; omega
theorem bits_xor (c d : W32) : Go.bits .xor .u32 (iv c) (iv d) = iv (c ^^^ d) := by
  unfold Go.bits
  simp only [ofInt_iv]
  exact wrap_iv _
theorem bits_and (c d : W32) : Go.bits .and .u32 (iv c) (iv d) = iv (c &&& d) := by
  unfold Go.bits
  simp only [ofInt_iv]
  exact wrap_iv _
theorem iv_lit (n : Nat) (h : n < 4294967296) : iv (BitVec.ofNat 32 n) = n := by unfold iv; rw [BitVec.toNat_ofNat]; omega
theorem bits_not (c : W32) : Go.bits .xor .u32 4294967295 (iv c) = iv (~~~ c) := by
  have h : (4294967295 : Int) = iv (BitVec.allOnes 32) := rfl
  rw [h, bits_xor, BitVec.allOnes_xor]
theorem iv_half (c : W32) : iv c / (2 : Int) = iv (c >>> 1) := by unfold iv; rw [BitVec.toNat_ushiftRight]; rw [Nat.shiftRight_eq_div_pow]; omega
theorem and_one (c : W32) : (Go.bits .and .u32 (iv c) 1 = 1) ↔ c.getLsbD 0 = true := by
  have h : (1 : Int) = iv 1#32 := rfl
  have hb := bits_and c 1#32
  rw [← h] at hb
  rw [hb]
  have hn : (c &&& 1#32).toNat = c.toNat % 2 := by rw [BitVec.toNat_and]; exact Nat.and_one_is_mod _
  have hg : c.getLsbD 0 = decide (c.toNat % 2 = 1) := by
    rw [BitVec.getLsbD, Nat.testBit_zero]
  unfold iv
  rw [hn, hg]
  simp
  omega
theorem turn1_yes {c : W32} (h : c.getLsbD 0 = true) : turn1 c = (c >>> 1) ^^^ poly := by unfold turn1; rw [if_pos h]
theorem turn1_no {c : W32} (h : c.getLsbD 0 = false) : turn1 c = c >>> 1 := by unfold turn1; rw [if_neg (by rw [h]; decide)]
theorem iv_turn_yes {c : W32} (h : c.getLsbD 0 = true) : Go.bits .xor .u32 (iv c / 2) 3988292384 = iv (turn1 c) := by
  have hp : (3988292384 : Int) = iv poly := rfl
  rw [iv_half, hp, bits_xor, turn1_yes h]
theorem iv_turn_no {c : W32} (h : c.getLsbD 0 = false) : iv c / 2 = iv (turn1 c) := by rw [iv_half, turn1_no h]
theorem iv_wide (x : UInt8) : ((x.toNat : Int)) = iv (wide x) := by
  unfold iv wide
  have := x.toNat_lt
  simp [BitVec.toNat_setWidth]

/-! ### It is linear -/
theorem turn1_xor (c d : W32) : turn1 (c ^^^ d) = turn1 c ^^^ turn1 d := by
  unfold turn1
  rw [BitVec.getLsbD_xor, BitVec.ushiftRight_xor_distrib]
  cases c.getLsbD 0 <;> cases d.getLsbD 0 <;> simp
  · ac_rfl
  · ac_rfl
  · rw [show c >>> 1 ^^^ poly ^^^ (d >>> 1 ^^^ poly) = (c >>> 1 ^^^ d >>> 1) ^^^ (poly ^^^ poly) by ac_rfl]; simp
theorem turns_xor (n : Nat) (c d : W32) : turns n (c ^^^ d) = turns n c ^^^ turns n d := by
  induction n with
  | zero => rfl
  | succ n ih => show turn1 _ = turn1 _ ^^^ turn1 _; rw [ih, turn1_xor]
theorem turn1_zero : turn1 0#32 = 0#32 := by decide
theorem turns_zero (n : Nat) : turns n 0#32 = 0#32 := by
  induction n with
  | zero => rfl
  | succ n ih => show turn1 _ = _; rw [ih, turn1_zero]
theorem turn1_inj0 {c : W32} (h : turn1 c = 0#32) : c = 0#32 := by
  unfold turn1 at h
  split at h
  · exfalso
    have h1 : (c >>> 1).getLsbD 31 = poly.getLsbD 31 := by
      have : c >>> 1 = poly := by
        have h2 : (c >>> 1 ^^^ poly) ^^^ poly = 0#32 ^^^ poly := by rw [h]
        rw [BitVec.xor_assoc, BitVec.xor_self, BitVec.xor_zero, BitVec.zero_xor] at h2
        exact h2
      rw [this]
    rw [BitVec.getLsbD_ushiftRight] at h1
    have h3 : c.getLsbD (1 + 31) = false := BitVec.getLsbD_of_ge _ _ (by omega)
    rw [h3] at h1
    exact absurd h1 (by decide)
  · rename_i hb
    apply BitVec.eq_of_getLsbD_eq
    intro i hi
    have hb' : c.getLsbD 0 = false := by simpa using hb
    cases i with
    | zero => rw [hb']; simp
    | succ i =>
      have h1 : (c >>> 1).getLsbD i = (0#32).getLsbD i := by rw [h]
      rw [BitVec.getLsbD_ushiftRight] at h1
      rw [show i + 1 = 1 + i by omega, h1]
      simp
theorem turns_inj0 {n : Nat} {c : W32} (h : turns n c = 0#32) : c = 0#32 := by
  induction n with
  | zero => exact h
  | succ n ih => exact ih (turn1_inj0 h)

theorem xor_eq_zero {a b : W32} (h : a ^^^ b = 0#32) : a = b := by
  have : a ^^^ b ^^^ b = 0#32 ^^^ b := by rw [h]
  simpa [BitVec.xor_assoc] using this

theorem wide_xor (x y : UInt8) : wide (x ^^^ y) = wide x ^^^ wide y := by
  unfold wide
  rw [UInt8.toBitVec_xor]
  apply BitVec.eq_of_getLsbD_eq
  intro i hi
  simp only [BitVec.getLsbD_setWidth, BitVec.getLsbD_xor]
  cases decide (i < 32) <;> simp

/-- Byte by byte. -/
def xors (l m : List UInt8) : List UInt8 := List.zipWith (· ^^^ ·) l m
theorem reg_xor : ∀ (l m : List UInt8) (c d : W32), l.length = m.length → reg (c ^^^ d) (xors l m) = reg c l ^^^ reg d m
  | [], [], c, d, _ => rfl
  | x :: l, y :: m, c, d, h => by
    have ih := reg_xor l m (turns 8 (c ^^^ wide x)) (turns 8 (d ^^^ wide y)) (by simpa using h)
    show reg (turns 8 (c ^^^ d ^^^ wide (x ^^^ y))) (xors l m) = _
    rw [wide_xor, show c ^^^ d ^^^ (wide x ^^^ wide y) = (c ^^^ wide x) ^^^ (d ^^^ wide y) by ac_rfl, turns_xor]
    exact ih
theorem crc_mixes (a b c : List UInt8) (hb : b.length = a.length) (hc : c.length = a.length) : crc (xors (xors a b) c) = crc a ^^^ crc b ^^^ crc c := by
  unfold crc more
  have h1 := reg_xor a b (~~~ 0#32) (~~~ 0#32) hb.symm
  have h2 := reg_xor (xors a b) c 0#32 (~~~ 0#32) (by simp [xors, hb, hc])
  have h0 : (~~~ 0#32 : W32) ^^^ ~~~ 0#32 = 0#32 := by decide
  rw [h0] at h1
  rw [BitVec.zero_xor] at h2
  rw [h2, h1]
  have e : ∀ x : W32, ~~~ x = x ^^^ BitVec.allOnes 32 := fun x => by rw [BitVec.xor_allOnes]
  rw [e, e (reg _ a), e (reg _ b), e (reg _ c)]
  generalize reg (~~~0#32) a = x
  generalize reg (~~~0#32) b = y
  generalize reg (~~~0#32) c = z
  rw [show x ^^^ BitVec.allOnes 32 ^^^ (y ^^^ BitVec.allOnes 32) ^^^ (z ^^^ BitVec.allOnes 32) = x ^^^ y ^^^ z ^^^ BitVec.allOnes 32 ^^^ (BitVec.allOnes 32 ^^^ BitVec.allOnes 32) by ac_rfl]
  simp
end Go.Proofs.Ytkbkgpedpaodlaa.CM
