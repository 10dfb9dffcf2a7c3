/- The walk of CrcTells. -/
import Derived.Test.YtphnnhbneinejaaCW5
set_option linter.unusedVariables false
set_option linter.unusedSimpArgs false
namespace Go.Proofs.Ytphnnhbneinejaa.CW
open Go.RowKit Go.Proofs.Ytphnnhbneinejaa.K Go.Proofs.Ytphnnhbneinejaa.CM
attribute [local irreducible] iv crc more reg turns

theorem bit_at (c : W32) (k : Nat) : (Go.bits .and .u32 (iv c / 2 ^ k) 1 = 1) ↔ c.getLsbD k = true := by
  have h : iv c / 2 ^ k = iv (c >>> k) := by
    with_unfolding_all unfold iv
    rw [BitVec.toNat_ushiftRight, Nat.shiftRight_eq_div_pow]
    simp
  rw [h, and_one]
  simp

theorem bits8 (x y : UInt8) : Go.bits .xor .u8 (x.toNat : Int) (y.toNat : Int) = ((x ^^^ y).toNat : Int) := by
  have e : ∀ z : UInt8, BitVec.ofInt IntKind.u8.bits (z.toNat : Int) = z.toBitVec := fun z => by
    show BitVec.ofInt 8 (z.toNat : Int) = z.toBitVec
    rw [BitVec.ofInt_natCast, ← UInt8.toNat_toBitVec, BitVec.ofNat_toNat, BitVec.setWidth_eq]
  unfold Go.bits
  simp only [e]
  show IntKind.u8.wrap ((x.toBitVec ^^^ y.toBitVec).toNat : Int) = _
  rw [← UInt8.toBitVec_xor, UInt8.toNat_toBitVec, IntKind.wrap_u8]
  have := (x ^^^ y).toNat_lt
  omega
theorem bits_flip (x : UInt8) (r : Nat) (h : r < 8) : Go.bits .xor .u8 (x.toNat : Int) (2 ^ r % 256) = ((x ^^^ UInt8.ofNat (2 ^ r)).toNat : Int) := by
  rw [← bits8]
  congr 1
theorem flip_bvs (m : List UInt8) (n j r : Nat) (x : UInt8) (hj : j = n / 8) (hr : r = n % 8) (hx : x = m.getD j 0) : (bvs m).set j (.int .u8 ((x ^^^ UInt8.ofNat (2 ^ r)).toNat : Int)) = bvs (flipB m n) := by
  subst hj; subst hr; subst hx
  unfold flipB bvs
  rw [List.map_set]
  rfl

set_option maxHeartbeats 4000000 in
theorem tells_main (v : Value) (l : List UInt8) (a : Nat) (bits : W32) (w : World) (h : Sl w v l.length (bvs l)) (hlen : l.length ≤ 8192) (hb : bits ≠ 0#32) (ha : a ≤ 8 * l.length)
    (hopen : ∀ (v : Value) (w0 w : World) (F0 : List Nat) (L G : List Res), St w0 F0 w L G → Rds L G v (l.length + 4) (bvs (turned (sealed l) a bits 32)) →
      Calls Try.prog 14 #[v] w fun e w' => e = .returned (.tuple #[.slice none 0 0, .bool false]) ∧ St w0 F0 w' L G) :
    Calls Try.prog 7 #[v, .int .i64 a, .int .u32 (iv bits)] w fun e w' => e = .returned (.bool true) ∧ Below w.heap.size w w' := by
  have hst := (St.start w).arg h
  obtain ⟨A, c, rfl, -, -⟩ := h
  have d1 : decide (8192 < (l.length : Int)) = false := by simp; omega
  have d2 : (iv bits == 0) = false := by
    rw [beq_eq_false_iff_ne]
    intro h
    exact hb (iv_inj (by rw [h]; with_unfolding_all rfl))
  have d3 : decide ((a : Int) < 0) = false := by simp
  have hb' := Lib.hid hb
  clear hb
  have hr := iv_range bits
  go_enter Try.func7, Try.ntmps7
  go_wp2_with (first
    | (go_at_call 9; refine use_call (alive_any _ _ _ _ _ hst) rfl ?_; clear hst; rintro e w1 ⟨rfl, hst⟩)
    | (go_at_call 13; refine use_call (seal_any (.slice A l.length c) l _ _ _ _ _ hst (Rds.slG 0 rfl) (by omega)) rfl ?_; clear hst; rintro e w1 ⟨b1, rfl, hst⟩))
  go_loopw [8] (fun i wr => ∃ k : Nat, k ≤ 32 ∧ i = .int .i64 k ∧ St w [] wr [cellsR b1 (bvs (turned (sealed l) a bits k)) 5] [slR (.slice A l.length c) l.length (bvs l)]) (fun i _ => 32 - (intOf i).toNat)
  case atStart => exact ⟨0, by omega, rfl, hst⟩
  case round =>
    clear hst
    obtain ⟨k, hk, rfl, hst⟩ := hrel
    by_cases hlt : k < 32
    · by_cases hbit : bits.getLsbD k = true
      · have t1 : (Go.bits .and .u32 (iv bits / 2 ^ k) 1 == 1) = true := by rw [beq_iff_eq]; exact (bit_at _ _).2 hbit
        obtain ⟨j, hj⟩ : ∃ j, j = (a + k) / 8 := ⟨_, rfl⟩
        obtain ⟨r, hr8⟩ : ∃ r, r = (a + k) % 8 := ⟨_, rfl⟩
        have q1 : ((a : Int) + (k : Int)) / 8 = (j : Int) := by omega
        have q2 : ((a : Int) + (k : Int)) % 8 = (r : Int) := by omega
        have hjl : j < l.length + 4 := by omega
        have hrl : r < 8 := by omega
        have hj' := Lib.hid hj
        have hr' := Lib.hid hr8
        have hbit' := Lib.hid hbit
        clear hj hr8 hbit
        obtain ⟨x, hx⟩ : ∃ x, x = (turned (sealed l) a bits k).getD j 0 := ⟨_, rfl⟩
        have hlen' : (turned (sealed l) a bits k).length = l.length + 4 := by rw [turned_length, sealed_length]
        have hxc : (bvs (turned (sealed l) a bits k))[j]? = some (.int .u8 (x.toNat : Int)) := by
          rw [bv_of (by omega), hx, List.getD_eq_getElem?_getD, List.getElem?_eq_getElem (by omega)]
          rfl
        have hfl := Lib.hid (flip_bvs _ (a + k) j r x hj'.out hr'.out hx)
        have hbf := Lib.hid (bits_flip x r hrl)
        have hxc' := Lib.hid hxc
        have hlen2 := Lib.hid hlen'
        have hstep : turned (sealed l) a bits (k + 1) = flipB (turned (sealed l) a bits k) (a + k) := by
          show (if bits.getLsbD k then _ else _) = _
          rw [if_pos hbit'.out]
        have hstep' := Lib.hid hstep
        clear hxc hx hlen' hstep
        go_wp2_with (first
          | (refine wpList_opK ?_
             first
             | (refine r_load hst 0 (by rfl) rfl rfl rfl (fun _ => Try.isAgg5 _) hxc'.out ?_)
             | (refine r_storeAt hst 0 (by rfl) rfl rfl rfl (v := .int .u8 (Go.bits .xor .u8 (x.toNat : Int) (2 ^ r % 256))) rfl (fun _ => Try.sizeOf5 _) rfl (by rw [bvs_length, hlen2.out]; exact hjl) ?_; clear hst; intro w2 hst; simp only [List.set_cons_zero] at hst; rw [hbf.out, hfl.out, ← hstep'.out] at hst; try simp only [Act.eval, Act.put, List.setIfInBounds_toArray, List.set_cons_zero, List.set_cons_succ, Array.getD_eq_getD_getElem?, List.getElem?_toArray, List.getElem?_cons_zero, List.getElem?_cons_succ, Option.getD_some, Value.cells, List.toList_toArray] at hst ⊢)))
        go_roundw
        case rel => exact ⟨k + 1, by omega, by go_num, hst⟩
        case measure => simp [intOf]; omega
      · have t1 : (Go.bits .and .u32 (iv bits / 2 ^ k) 1 == 1) = false := by rw [beq_eq_false_iff_ne]; exact fun h => hbit ((bit_at _ _).1 h)
        have hstep : turned (sealed l) a bits (k + 1) = turned (sealed l) a bits k := by
          show (if bits.getLsbD k then _ else _) = _
          rw [if_neg hbit]
        rw [← hstep] at hst
        clear hstep hbit
        go_wp2
        go_roundw
        case rel => exact ⟨k + 1, by omega, by go_num, hst⟩
        case measure => simp [intOf]; omega
    · obtain rfl : k = 32 := by omega
      go_wp2_with (go_at_call 14; refine use_call (hopen (.slice (some ⟨b1, 0, none⟩) (l.length + 4) (l.length + 4)) _ _ _ _ _ hst (Rds.ofCells 0 rfl _ _)) rfl ?_; clear hst; rintro e w1 ⟨rfl, hst⟩)
      go_ret
      exact ⟨by simp, hst.below⟩

theorem CrcTells_walk (v : Value) (l : List UInt8) (at_ bits : Int) (w : World) (h : Sl w v l.length (bvs l)) (hm : l.length ≤ 9223372036854775807) (ha : (Lit.int .i64 at_).wf = true) (hb : (Lit.int .u32 bits).wf = true) :
    Calls Try.prog 7 #[v, .int .i64 at_, .int .u32 bits] w fun e w' => e = .returned (.bool true) ∧ Below w.heap.size w w' := by
  have hab : -9223372036854775808 ≤ at_ ∧ at_ ≤ 9223372036854775807 := by
    simp [Lit.wf, IntKind.min, IntKind.max, IntKind.signed, IntKind.bits] at ha
    omega
  have hbb : 0 ≤ bits ∧ bits ≤ 4294967295 := by
    simp [Lit.wf, IntKind.min, IntKind.max, IntKind.signed, IntKind.bits] at hb
    omega
  clear ha hb
  by_cases hlen : l.length ≤ 8192
  · by_cases hz : bits = 0
    · subst hz
      have hst := (St.start w).arg h
      obtain ⟨A, c, rfl, -, -⟩ := h
      have d1 : decide (8192 < (l.length : Int)) = false := by simp; omega
      go_enter Try.func7, Try.ntmps7
      go_wp2_with (go_at_call 9; refine use_call (alive_any _ _ _ _ _ hst) rfl ?_; clear hst; rintro e w1 ⟨rfl, hst⟩)
      go_ret
      exact ⟨by simp, hst.below⟩
    · by_cases hn : at_ < 0
      · have hst := (St.start w).arg h
        obtain ⟨A, c, rfl, -, -⟩ := h
        have d1 : decide (8192 < (l.length : Int)) = false := by simp; omega
        have d2 : (bits == 0) = false := by simpa using hz
        have d3 : decide (at_ < 0) = true := by simpa using hn
        clear hz hn
        go_enter Try.func7, Try.ntmps7
        go_wp2_with (go_at_call 9; refine use_call (alive_any _ _ _ _ _ hst) rfl ?_; clear hst; rintro e w1 ⟨rfl, hst⟩)
        go_ret
        exact ⟨by simp, hst.below⟩
      · by_cases hg : at_ ≤ 8 * (l.length : Int)
        · obtain ⟨a, rfl⟩ := Int.eq_ofNat_of_zero_le (show 0 ≤ at_ by omega)
          obtain ⟨bw, rfl⟩ : ∃ bw : W32, bits = iv bw := ⟨BitVec.ofNat 32 bits.toNat, by
            with_unfolding_all unfold iv
            rw [BitVec.toNat_ofNat]; omega⟩
          have hbw : bw ≠ 0#32 := by
            rintro rfl
            exact hz (by with_unfolding_all rfl)
          refine tells_main v l a bw w h hlen hbw (by omega) ?_
          intro u w0 w1 F0 L G hst hr
          have hlen2 := turned_length (sealed l) a bw 32
          rw [sealed_length] at hlen2
          rcases tail_of (turned (sealed l) a bw 32) with h4 | ⟨p, s0, s1, s2, s3, hp⟩
          · omega
          · have hne := tells l p [s0, s1, s2, s3] a bw (by omega) hbw hp
            have hpl : l.length = p.length := by rw [hp] at hlen2; simp at hlen2; omega
            rw [hp, hpl] at hr
            exact open_no u p s0 s1 s2 s3 w0 w1 F0 L G hst hr (by omega) hne
        · have hst := (St.start w).arg h
          obtain ⟨A, c, rfl, -, -⟩ := h
          have d1 : decide (8192 < (l.length : Int)) = false := by simp; omega
          have d2 : (bits == 0) = false := by simpa using hz
          have d3 : decide (at_ < 0) = false := by simpa using hn
          have d4 : decide (8 * ((l.length : Int) + 4) - 32 < at_) = true := by simp; omega
          clear hz
          go_enter Try.func7, Try.ntmps7
          go_wp2_with (first
            | (go_at_call 9; refine use_call (alive_any _ _ _ _ _ hst) rfl ?_; clear hst; rintro e w1 ⟨rfl, hst⟩)
            | (go_at_call 13; refine use_call (seal_any (.slice A l.length c) l _ _ _ _ _ hst (Rds.slG 0 rfl) (by omega)) rfl ?_; clear hst; rintro e w1 ⟨b1, rfl, hst⟩))
          go_ret
          exact ⟨by simp, hst.below⟩
  · have hst := (St.start w).arg h
    obtain ⟨A, c, rfl, -, -⟩ := h
    have d1 : decide (8192 < (l.length : Int)) = true := by simp; omega
    go_enter Try.func7, Try.ntmps7
    go_wp2_with (go_at_call 9; refine use_call (alive_any _ _ _ _ _ hst) rfl ?_; clear hst; rintro e w1 ⟨rfl, hst⟩)
    go_ret
    exact ⟨by simp, hst.below⟩
end Go.Proofs.Ytphnnhbneinejaa.CW
