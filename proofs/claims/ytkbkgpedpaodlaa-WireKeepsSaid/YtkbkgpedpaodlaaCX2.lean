/- The walks through the reference of layer 5 and the laws' alive. -/
import Derived.Test.YtkbkgpedpaodlaaK2
import Derived.Test.YtkbkgpedpaodlaaCW1
set_option linter.unusedVariables false
set_option linter.unusedSimpArgs false
namespace Go.Proofs.Ytkbkgpedpaodlaa.CW
open Go.RowKit Go.Proofs.Ytkbkgpedpaodlaa.K Go.Proofs.Ytkbkgpedpaodlaa.CM

theorem rem_two (c : W32) : (iv c % 2 = 1) ↔ c.getLsbD 0 = true := by
  have hg : c.getLsbD 0 = decide (c.toNat % 2 = 1) := by rw [BitVec.getLsbD, Nat.testBit_zero]
  unfold iv
  rw [hg]
  simp
  omega

def ones : W32 := ~~~ 0#32
theorem tdiv_two (c : W32) : (iv c).tdiv 2 % 4294967296 = iv c / 2 := by
  have h := iv_range c
  rw [Int.tdiv_eq_ediv_of_nonneg h.1]
  omega
theorem iv_yes {c : W32} (h : c.getLsbD 0 = true) : Go.bits .xor .u32 ((iv c).tdiv 2 % 4294967296) 3988292384 = iv (turn1 c) := by rw [tdiv_two, iv_turn_yes h]
theorem iv_no {c : W32} (h : c.getLsbD 0 = false) : (iv c).tdiv 2 % 4294967296 = iv (turn1 c) := by rw [tdiv_two, iv_turn_no h]
theorem sub_ones (c : W32) : 4294967295 - iv c = iv (~~~ c) := by
  have h := c.isLt
  unfold iv
  rw [BitVec.toNat_not]
  omega
set_option maxHeartbeats 400000 in
theorem refsum_any (s : ByteArray) (w : World) (hs : s.size ≤ 140737488355328) :
    Calls Try.prog 35 #[.string s] w fun e w' => e = .returned (.int .u32 (iv (crc (sb s)))) ∧ w = w' := by
  go_enter Try.func35, Try.ntmps35
  go_wp2
  go_loop [3, 4] (fun x i => ∃ k : Nat, k ≤ s.size ∧ i = .int .i64 k ∧ x = .int .u32 (iv (reg ones ((sb s).take k)))) (fun _ i => s.size - (intOf i).toNat)
  case atStart => exact ⟨0, by omega, rfl, rfl⟩
  case round =>
    obtain ⟨k, hk, rfl, rfl⟩ := hrel
    by_cases hlt : k < s.size
    · have hx := reg_take ones (sb s) k (by simpa using hlt)
      have hx' := Lib.hid hx
      clear hx
      have hw0 : (s[k].toNat : Int) = iv (wide s[k]) := iv_wide s[k]
      have hw1 := Lib.hid hw0
      clear hw0
      have hxx := Lib.hid (bits_xor (reg ones ((sb s).take k)) (wide s[k]))
      have h255 : (s[k].toNat : Int) ≤ 255 := by have := s[k].toNat_lt; omega
      go_wp2
      simp only [hw1.out, hxx.out]
      go_loop [3, 5] (fun x i => ∃ j : Nat, j ≤ 8 ∧ i = .int .i64 j ∧ x = .int .u32 (iv (turns j (reg ones ((sb s).take k) ^^^ wide s[k])))) (fun _ i => 8 - (intOf i).toNat)
      case atStart => exact ⟨0, by omega, rfl, by first | rfl | rw [hxx.out]; rfl⟩
      case round =>
        obtain ⟨j, hj, rfl, rfl⟩ := hrel
        generalize hc : reg ones ((sb s).take k) ^^^ wide s[k] = c
        have hc' := Lib.hid hc
        clear hc
        have h0 := (iv_range (turns j c)).1
        by_cases hlt2 : j < 8
        · by_cases hb : (turns j c).getLsbD 0 = true
          · have h1 := Lib.hid (iv_yes hb)
            have hb' : (iv (turns j c) % 2 == 1) = true := by simpa using (rem_two _).2 hb
            clear hb
            go_wp2
            go_round
            case rel => exact ⟨j + 1, by omega, by go_num, by rw [h1.out]; rfl⟩
            case measure => simp [intOf]; omega
          · have hb0 : (turns j c).getLsbD 0 = false := by simpa using hb
            have h1 := Lib.hid (iv_no hb0)
            have hb' : (iv (turns j c) % 2 == 1) = false := by
              rw [beq_eq_false_iff_ne]; exact fun h => hb ((rem_two _).1 h)
            clear hb hb0
            go_wp2
            go_round
            case rel => exact ⟨j + 1, by omega, by go_num, by rw [h1.out]; rfl⟩
            case measure => simp [intOf]; omega
        · obtain rfl : j = 8 := by omega
          go_wp2
          go_round
          case rel => exact ⟨k + 1, by omega, by go_num, by rw [hx'.out, ← hc'.out]; rfl⟩
          case measure => simp [intOf]; omega
    · have hx : (sb s).take k = sb s := List.take_of_length_le (by simp; omega)
      have hr := iv_range (reg ones (sb s))
      go_wp2
      go_ret
      refine ⟨?_, rfl⟩
      rw [sub_ones]
      rfl

/-! ### An argument of bytes -/
theorem bytes_of_nums (zs : List Int) (h : ∀ n ∈ zs, (Lit.int .u8 n).wf = true) : zs.map (Value.int .u8) = bvs (zs.map fun n => UInt8.ofNat n.toNat) := by
  unfold bvs
  rw [List.map_map]
  apply List.map_congr_left
  intro n hn
  have := h n hn
  have hb : 0 ≤ n ∧ n ≤ 255 := by
    simp [Lit.wf, IntKind.min, IntKind.max, IntKind.signed, IntKind.bits] at this
    omega
  simp only [Function.comp, bv]
  congr 1
  rw [UInt8.toNat_ofNat']
  omega

/-- What the shell of a law tells of an argument of bytes. -/
theorem arg_of {w : World} {a : Option Addr} {len cap : Nat} {zs : List Int}
    (h : (a = none ∧ len = 0 ∧ cap = 0 ∧ zs = []) ∨ ∃ x, a = some x ∧ len ≤ cap ∧ cap ≤ maxLen ∧ zs.length = cap ∧ (∀ i, i < zs.length → w.cell? (x.add i) = some (.int .u8 (zs.getD i 0))) ∧ ∀ n ∈ zs, (Lit.int .u8 n).wf = true) :
    ∃ l : List UInt8, l.length = len ∧ Sl w (.slice a len cap) l.length (bvs l) ∧ l.length ≤ 9223372036854775807 := by
  rcases h with ⟨rfl, rfl, rfl, rfl⟩ | ⟨x, rfl, hl, hm, hz, hcell, hwz⟩
  · exact ⟨[], rfl, Sl.nil w, by simp⟩
  · unfold maxLen at hm
    have hb := bytes_of_nums (zs.take len) (fun n hn => hwz n (List.mem_of_mem_take hn))
    have hlen : ((zs.take len).map fun n => UInt8.ofNat n.toNat).length = len := by simp; omega
    refine ⟨_, hlen, ⟨some x, cap, by rw [hlen], by rw [hlen]; exact hl, fun _ => ⟨x, rfl, fun j hj => ?_⟩⟩, by omega⟩
    rw [← hb] at hj ⊢
    simp only [List.length_map, List.length_take] at hj
    rw [hcell j (by omega), List.getElem?_map, List.getElem?_take]
    simp [show j < len by omega, List.getD, List.getElem?_eq_getElem (show j < zs.length by omega)]
end Go.Proofs.Ytkbkgpedpaodlaa.CW
