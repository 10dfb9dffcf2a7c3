/- The walks through package crc: turn, More, Sum. -/
import Derived.Test.YtkbkgpedpaodlaaProg
import Derived.Test.YtkbkgpedpaodlaaK3
import Derived.Test.YtkbkgpedpaodlaaCM
set_option linter.unusedVariables false
set_option linter.unusedSimpArgs false
namespace Go.Proofs.Ytkbkgpedpaodlaa.CW
open Go.RowKit Go.Proofs.Ytkbkgpedpaodlaa.K Go.Proofs.Ytkbkgpedpaodlaa.CM

theorem turn_any (c : W32) (w : World) :
    Calls Try.prog 37 #[.int .u32 (iv c)] w fun e w' => e = .returned (.int .u32 (iv (turns 8 c))) ∧ w = w' := by
  go_enter Try.func37, Try.ntmps37
  go_wp2
  go_loop [0, 4] (fun x i => ∃ k : Nat, k ≤ 8 ∧ i = .int .i64 k ∧ x = .int .u32 (iv (turns k c))) (fun _ i => 8 - (intOf i).toNat)
  case atStart => exact ⟨0, by omega, rfl, rfl⟩
  case round =>
    obtain ⟨k, hk, rfl, rfl⟩ := hrel
    by_cases hlt : k < 8
    · by_cases hb : (turns k c).getLsbD 0 = true
      · have h1 := Lib.hid (iv_turn_yes hb)
        have hb' : (Go.bits .and .u32 (iv (turns k c)) 1 == 1) = true := by simpa using (and_one _).2 hb
        clear hb
        go_wp2
        go_round
        case rel => exact ⟨k + 1, by omega, by go_num, by rw [h1.out]; rfl⟩
        case measure => simp [intOf]; omega
      · have hb0 : (turns k c).getLsbD 0 = false := by simpa using hb
        have h1 := Lib.hid (iv_turn_no hb0)
        have hb' : (Go.bits .and .u32 (iv (turns k c)) 1 == 1) = false := by
          rw [beq_eq_false_iff_ne]; exact fun h => hb ((and_one _).1 h)
        clear hb hb0
        have h0 := (iv_range (turns k c)).1
        go_wp2
        go_round
        case rel => exact ⟨k + 1, by omega, by go_num, by rw [h1.out]; rfl⟩
        case measure => simp [intOf]; omega
    · obtain rfl : k = 8 := by omega
      go_wp2
      go_ret
      exact ⟨rfl, rfl⟩

theorem bits_not' (c : W32) : Go.bits .xor .u32 IntKind.u32.max (iv c) = iv (~~~ c) := bits_not c

theorem reg_take (c : W32) (l : List UInt8) (k : Nat) (h : k < l.length) : reg c (l.take (k + 1)) = turns 8 (reg c (l.take k) ^^^ wide l[k]) := by
  rw [List.take_succ_eq_append_getElem h, reg_append]
  rfl

theorem more_any (c : W32) (v : Value) (l : List UInt8) (w : World) (h : Sl w v l.length (bvs l)) (hl : l.length ≤ 140737488355328) :
    Calls Try.prog 36 #[.int .u32 (iv c), v] w fun e w' => e = .returned (.int .u32 (iv (more c l))) ∧ w = w' := by
  obtain ⟨A, cap, rfl, hcap, hA⟩ := h
  have hn := Lib.hid (bits_not' c)
  go_enter Try.func36, Try.ntmps36
  go_wp2
  simp only [hn.out]
  clear hn
  go_loop [0, 11] (fun x i => ∃ k : Nat, k ≤ l.length ∧ i = .int .i64 k ∧ x = .int .u32 (iv (reg (~~~ c) (l.take k)))) (fun _ i => l.length - (intOf i).toNat)
  case atStart => exact ⟨0, by omega, rfl, by simp [reg]⟩
  case round =>
    obtain ⟨k, hk, rfl, rfl⟩ := hrel
    by_cases hlt : k < l.length
    · have hx := reg_take (~~~ c) l k hlt
      have hx' := Lib.hid hx
      clear hx
      obtain ⟨ad, rfl, hc⟩ := hA (by intro h0; have h1 := congrArg List.length h0; rw [bvs_length, List.length_nil] at h1; omega)
      have hc1 : w.cell? (ad.add k) = some (.int .u8 (l[k].toNat : Int)) := by rw [hc k (by simpa using hlt), bv_of hlt]; rfl
      clear hc
      have hw0 := Lib.hid (iv_wide l[k])
      have hxx := Lib.hid (bits_xor (reg (~~~ c) (l.take k)) (wide l[k]))
      have h255 : (l[k].toNat : Int) ≤ 255 := by have := l[k].toNat_lt; omega
      go_wp2_with (go_at_call 37; simp only [hw0.out, hxx.out]; refine (turn_any _ _).mono ?_; rintro e w' ⟨rfl, rfl⟩)
      go_round
      case rel => exact ⟨k + 1, by omega, by go_num, by rw [hx'.out]⟩
      case measure => simp [intOf]; omega
    · have hx : l.take k = l := List.take_of_length_le (by omega)
      go_wp2
      go_ret
      exact ⟨by show Ending.returned (.int .u32 _) = _; rw [bits_not']; rfl, rfl⟩

/-- The pieces' values: slices of bytes, each readable. -/
def Pieces (w : World) : List Value → List (List UInt8) → Prop
  | [], [] => True
  | v :: vs, l :: ls => (Sl w v l.length (bvs l) ∧ l.length ≤ 140737488355328) ∧ Pieces w vs ls
  | _, _ => False
theorem Pieces.length {w : World} : ∀ {vs : List Value} {ls : List (List UInt8)}, Pieces w vs ls → vs.length = ls.length
  | [], [], _ => rfl
  | _ :: vs, _ :: ls, h => by simp [Pieces.length h.2]
theorem Pieces.get {w : World} : ∀ {vs : List Value} {ls : List (List UInt8)} (h : Pieces w vs ls) (k : Nat) (hk : k < ls.length), ∃ v, vs[k]? = some v ∧ Sl w v ls[k].length (bvs ls[k]) ∧ ls[k].length ≤ 140737488355328
  | [], [], _, _, hk => absurd hk (by simp)
  | v :: vs, l :: ls, h, 0, _ => ⟨v, rfl, h.1⟩
  | _ :: vs, _ :: ls, h, k + 1, hk => by
    obtain ⟨v, h1, h2⟩ := Pieces.get h.2 k (by simpa using hk)
    exact ⟨v, by simpa using h1, h2⟩

theorem crc_take (ls : List (List UInt8)) (k : Nat) (h : k < ls.length) : crc (ls.take (k + 1)).flatten = more (crc (ls.take k).flatten) ls[k] := by
  rw [List.take_succ_eq_append_getElem h, List.flatten_append]
  unfold crc
  rw [more_append]
  simp

theorem sum_any (v : Value) (vs : List Value) (ls : List (List UInt8)) (w : World) (h : Sl w v ls.length vs) (hp : Pieces w vs ls) (hl : ls.length ≤ 140737488355328) :
    Calls Try.prog 34 #[v] w fun e w' => e = .returned (.int .u32 (iv (crc ls.flatten))) ∧ w = w' := by
  obtain ⟨A, cap, rfl, hcap, hA⟩ := h
  have hvl := hp.length
  go_enter Try.func34, Try.ntmps34
  go_wp2
  go_loop [3, 8] (fun x i => ∃ k : Nat, k ≤ ls.length ∧ i = .int .i64 k ∧ x = .int .u32 (iv (crc (ls.take k).flatten))) (fun _ i => ls.length - (intOf i).toNat)
  case atStart => exact ⟨0, by omega, rfl, by simp [crc, more, reg, iv]⟩
  case round =>
    obtain ⟨k, hk, rfl, rfl⟩ := hrel
    by_cases hlt : k < ls.length
    · have hx' := Lib.hid (crc_take ls k hlt)
      obtain ⟨u, hu, hs, hln⟩ := hp.get k hlt
      obtain ⟨ad, rfl, hc⟩ := hA (by intro h0; rw [h0] at hvl; simp only [List.length_nil] at hvl; omega)
      have hc1 : w.cell? (ad.add k) = some u := by rw [hc k (by omega), hu]
      clear hc hu
      go_wp2_with (go_at_call 36; refine (more_any _ _ _ _ hs hln).mono ?_; rintro e w' ⟨rfl, rfl⟩)
      go_round
      case rel => exact ⟨k + 1, by omega, by go_num, by rw [hx'.out]⟩
      case measure => simp [intOf]; omega
    · have hx : ls.take k = ls := List.take_of_length_le (by omega)
      go_wp2
      go_ret
      exact ⟨rfl, rfl⟩
end Go.Proofs.Ytkbkgpedpaodlaa.CW
