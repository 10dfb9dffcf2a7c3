/- The walks through the reference of layer 5 and the laws' alive. -/
import Derived.Test.YtphnnhbneinejaaK2
import Derived.Test.YtphnnhbneinejaaCW1
set_option linter.unusedVariables false
set_option linter.unusedSimpArgs false
namespace Go.Proofs.Ytphnnhbneinejaa.CW
open Go.RowKit Go.Proofs.Ytphnnhbneinejaa.K Go.Proofs.Ytphnnhbneinejaa.CM

theorem rem_two (c : W32) : (iv c % 2 = 1) ↔ c.getLsbD 0 = true := by
  have hg : c.getLsbD 0 = decide (c.toNat % 2 = 1) := by rw [BitVec.getLsbD, Nat.testBit_zero]
  unfold iv
  rw [hg]
  simp
  omega

def ones : W32 := ~~~ 0#32
theorem tdiv_two (c : W32) : (iv c).tdiv 2 % 4294967296 = iv c / 2 := by
  have h := iv_range c
  rw [Int.tdiv_eq_ediv_of_nonneg h.1]
  omega
theorem iv_yes {c : W32} (h : c.getLsbD 0 = true) : Go.bits .xor .u32 ((iv c).tdiv 2 % 4294967296) 3988292384 = iv (turn1 c) := by rw [tdiv_two, iv_turn_yes h]
theorem iv_no {c : W32} (h : c.getLsbD 0 = false) : (iv c).tdiv 2 % 4294967296 = iv (turn1 c) := by rw [tdiv_two, iv_turn_no h]
theorem sub_ones (c : W32) : 4294967295 - iv c = iv (~~~ c) := by
  have h := c.isLt
  unfold iv
  rw [BitVec.toNat_not]
  omega
set_option maxHeartbeats 400000 in
theorem refsum_any (s : ByteArray) (w : World) (hs : s.size ≤ 140737488355328) :
    Calls Try.prog 11 #[.string s] w fun e w' => e = .returned (.int .u32 (iv (crc (sb s)))) ∧ w = w' := by
  go_enter Try.func11, Try.ntmps11
  go_wp2
  go_loop [3, 4] (fun x i => ∃ k : Nat, k ≤ s.size ∧ i = .int .i64 k ∧ x = .int .u32 (iv (reg ones ((sb s).take k)))) (fun _ i => s.size - (intOf i).toNat)
  case atStart => exact ⟨0, by omega, rfl, rfl⟩
  case round =>
    obtain ⟨k, hk, rfl, rfl⟩ := hrel
    by_cases hlt : k < s.size
    · have hx := reg_take ones (sb s) k (by simpa using hlt)
      have hx' := Lib.hid hx
      clear hx
      have hw0 : (s[k].toNat : Int) = iv (wide s[k]) := iv_wide s[k]
      have hw1 := Lib.hid hw0
      clear hw0
      have hxx := Lib.hid (bits_xor (reg ones ((sb s).take k)) (wide s[k]))
      have h255 : (s[k].toNat : Int) ≤ 255 := by have := s[k].toNat_lt; omega
      go_wp2
      simp only [hw1.out, hxx.out]
      go_loop [3, 5] (fun x i => ∃ j : Nat, j ≤ 8 ∧ i = .int .i64 j ∧ x = .int .u32 (iv (turns j (reg ones ((sb s).take k) ^^^ wide s[k])))) (fun _ i => 8 - (intOf i).toNat)
      case atStart => exact ⟨0, by omega, rfl, by first | rfl | rw [hxx.out]; rfl⟩
      case round =>
        obtain ⟨j, hj, rfl, rfl⟩ := hrel
        generalize hc : reg ones ((sb s).take k) ^^^ wide s[k] = c
        have hc' := Lib.hid hc
        clear hc
        have h0 := (iv_range (turns j c)).1
        by_cases hlt2 : j < 8
        · by_cases hb : (turns j c).getLsbD 0 = true
          · have h1 := Lib.hid (iv_yes hb)
            have hb' : (iv (turns j c) % 2 == 1) = true := by simpa using (rem_two _).2 hb
            clear hb
            go_wp2
            go_round
            case rel => exact ⟨j + 1, by omega, by go_num, by rw [h1.out]; rfl⟩
            case measure => simp [intOf]; omega
          · have hb0 : (turns j c).getLsbD 0 = false := by simpa using hb
            have h1 := Lib.hid (iv_no hb0)
            have hb' : (iv (turns j c) % 2 == 1) = false := by
              rw [beq_eq_false_iff_ne]; exact fun h => hb ((rem_two _).1 h)
            clear hb hb0
            go_wp2
            go_round
            case rel => exact ⟨j + 1, by omega, by go_num, by rw [h1.out]; rfl⟩
            case measure => simp [intOf]; omega
        · obtain rfl : j = 8 := by omega
          go_wp2
          go_round
          case rel => exact ⟨k + 1, by omega, by go_num, by rw [hx'.out, ← hc'.out]; rfl⟩
          case measure => simp [intOf]; omega
    · have hx : (sb s).take k = sb s := List.take_of_length_le (by simp; omega)
      have hr := iv_range (reg ones (sb s))
      go_wp2
      go_ret
      refine ⟨?_, rfl⟩
      rw [sub_ones]
      rfl

/-! ### An argument of bytes -/
theorem bytes_of_nums (zs : List Int) (h : ∀ n ∈ zs, (Lit.int .u8 n).wf = true) : zs.map (Value.int .u8) = bvs (zs.map fun n => UInt8.ofNat n.toNat) := by
  unfold bvs
  rw [List.map_map]
  apply List.map_congr_left
  intro n hn
  have := h n hn
  have hb : 0 ≤ n ∧ n ≤ 255 := by
    simp [Lit.wf, IntKind.min, IntKind.max, IntKind.signed, IntKind.bits] at this
    omega
  simp only [Function.comp, bv]
  congr 1
  rw [UInt8.toNat_ofNat']
  omega

/-- What the shell of a law tells of an argument of bytes. -/
theorem arg_of {w : World} {a : Option Addr} {len cap : Nat} {zs : List Int}
    (h : (a = none ∧ len = 0 ∧ cap = 0 ∧ zs = []) ∨ ∃ x, a = some x ∧ len ≤ cap ∧ cap ≤ maxLen ∧ zs.length = cap ∧ (∀ i, i < zs.length → w.cell? (x.add i) = some (.int .u8 (zs.getD i 0))) ∧ ∀ n ∈ zs, (Lit.int .u8 n).wf = true) :
    ∃ l : List UInt8, l.length = len ∧ Sl w (.slice a len cap) l.length (bvs l) ∧ l.length ≤ 9223372036854775807 := by
  rcases h with ⟨rfl, rfl, rfl, rfl⟩ | ⟨x, rfl, hl, hm, hz, hcell, hwz⟩
  · exact ⟨[], rfl, Sl.nil w, by simp⟩
  · unfold maxLen at hm
    have hb := bytes_of_nums (zs.take len) (fun n hn => hwz n (List.mem_of_mem_take hn))
    have hlen : ((zs.take len).map fun n => UInt8.ofNat n.toNat).length = len := by simp; omega
    refine ⟨_, hlen, ⟨some x, cap, by rw [hlen], by rw [hlen]; exact hl, fun _ => ⟨x, rfl, fun j hj => ?_⟩⟩, by omega⟩
    rw [← hb] at hj ⊢
    simp only [List.length_map, List.length_take] at hj
    rw [hcell j (by omega), List.getElem?_map, List.getElem?_take]
    simp [show j < len by omega, List.getD, List.getElem?_eq_getElem (show j < zs.length by omega)]

set_option maxHeartbeats 1000000 in
theorem alive_any (w0 w : World) (F0 : List Nat) (L G : List Res) (hst : St w0 F0 w L G) :
    Calls Try.prog 9 #[] w fun e w' => e = .returned (.bool true) ∧ St w0 F0 w' L G := by
  go_enter Try.func9, Try.ntmps9
  have hcrc := Lib.hid (show iv (crc [[49, 50, 51, 52, 53, 54, 55, 56, 57]].flatten) = 3421780262 from by kernel_rfl)
  have hcrc0 := Lib.hid (show iv (crc [].flatten) = 0 from by kernel_rfl)
  go_wp2_with (first
    | (refine wpList_opK ?_
       first
       | (refine r_lits hst (by rfl) rfl (vs := bvs [49, 50, 51, 52, 53, 54, 55, 56, 57]) rfl rfl rfl Try.underlying22 (fun _ => Try.sizeOf5 _) (fun _ => Try.zeroValue5 _) (by decide) ?_; clear hst; intro b1 w1 hst; try simp only [Act.eval, Act.put, List.setIfInBounds_toArray, List.set_cons_zero, List.set_cons_succ, Array.getD_eq_getD_getElem?, List.getElem?_toArray, List.getElem?_cons_zero, List.getElem?_cons_succ, Option.getD_some, Value.cells, List.toList_toArray] at hst ⊢)
       | (refine r_convertBytes hst 0 (by rfl) rfl Try.underlying22 Try.underlying5 rfl rfl ?_; clear hst; intro w1 hst; try simp only [Act.eval, Act.put, List.setIfInBounds_toArray, List.set_cons_zero, List.set_cons_succ, Array.getD_eq_getD_getElem?, List.getElem?_toArray, List.getElem?_cons_zero, List.getElem?_cons_succ, Option.getD_some, Value.cells, List.toList_toArray] at hst ⊢)
       | (refine r_lit1 hst (by rfl) rfl Try.underlying38 rfl (fun _ => Try.sizeOf22 _) rfl (fun _ => Try.zeroValue22 _) (by decide) ?_; clear hst; intro b2 w1 hst; try simp only [Act.eval, Act.put, List.setIfInBounds_toArray, List.set_cons_zero, List.set_cons_succ, Array.getD_eq_getD_getElem?, List.getElem?_toArray, List.getElem?_cons_zero, List.getElem?_cons_succ, Option.getD_some, Value.cells, List.toList_toArray] at hst ⊢))
    | (go_at_call 10
       first
       | (refine use_call (sum_any (.slice (some ⟨b2, 0, none⟩) 1 1) [.slice (some ⟨b1, 0, none⟩) 9 9] [[49, 50, 51, 52, 53, 54, 55, 56, 57]] _ ((Rds.ofCells 0 rfl 1 1).sl hst) ⟨⟨(Rds.ofCells 1 rfl 9 9).sl hst, by decide⟩, trivial⟩ (by decide)) rfl ?_
          rintro e w' ⟨rfl, rfl⟩
          rw [hcrc.out])
       | (refine use_call (sum_any (.slice none 0 0) [] [] _ (Sl.nil _) trivial (by decide)) rfl ?_
          rintro e w' ⟨rfl, rfl⟩
          rw [hcrc0.out])))
  go_ret
  exact ⟨rfl, hst.drop.drop⟩
set_option maxHeartbeats 1000000 in
theorem CrcSums_walk (v : Value) (l : List UInt8) (w : World) (h : Sl w v l.length (bvs l)) (hm : l.length ≤ 9223372036854775807) :
    Calls Try.prog 3 #[v] w fun e w' => e = .returned (.bool true) ∧ Below w.heap.size w w' := by
  have hst := (St.start w).arg h
  have hv := h
  obtain ⟨A, cap, rfl, -, -⟩ := h
  clear hv
  by_cases hlen : l.length ≤ 16384
  · have hl : l.length ≤ 140737488355328 := by omega
    have hd : decide (16384 < (l.length : Int)) = false := by simp; omega
    go_enter Try.func3, Try.ntmps3
    go_wp2_with (go_at_call 9; refine use_call (alive_any _ _ _ _ _ hst) rfl ?_; clear hst; rintro e w1 ⟨rfl, hst⟩)
    refine wp_region_held_drew (S := Ctx _ _ ([]) ([slR (.slice A l.length cap) l.length (bvs l)])) (by kernel_rfl) ⟨[], [], hst.drew⟩ (fun hHeld => ?_)
    replace hst := hst.drew
    generalize World.drew _ = wd at hst hHeld ⊢; clear hHeld
    refine takeL 0 rfl (v := ?_) (by kernel_rfl) (by kernel_rfl) (by kernel_rfl) (by exact fun _ _ _ h => h) (Or.inl ⟨by rfl, ?_⟩) ⟨[], [], hst⟩ ?_
    rotate_left 1
    · intro w' hSw; go_simp; try with_reducible rfl
    try simp only [Act.put, List.setIfInBounds_toArray, List.set_cons_zero, List.set_cons_succ]
    refine takeL 1 rfl (v := ?_) (by kernel_rfl) (by kernel_rfl) (by kernel_rfl) (by exact fun _ _ _ h => h) (Or.inl ⟨by rfl, ?_⟩) ⟨[], [], hst⟩ ?_
    rotate_left 1
    · intro w' hSw; go_simp; try with_reducible rfl
    try simp only [Act.put, List.setIfInBounds_toArray, List.set_cons_zero, List.set_cons_succ]
    refine takeL 2 rfl (v := ?_) (by kernel_rfl) (by kernel_rfl) (by kernel_rfl) (by exact fun _ _ _ h => h) (Or.inl ⟨by rfl, ?_⟩) ⟨[], [], hst⟩ ?_
    rotate_left 1
    · intro w' hSw; go_simp; try with_reducible rfl
    try simp only [Act.put, List.setIfInBounds_toArray, List.set_cons_zero, List.set_cons_succ]
    refine takeL 3 rfl (v := ?_) (by kernel_rfl) (by kernel_rfl) (by kernel_rfl) (by exact fun _ _ _ h => h) (Or.inl ⟨by rfl, ?_⟩) ⟨[], [], hst⟩ ?_
    rotate_left 1
    · intro w' hSw; go_simp; try with_reducible rfl
    try simp only [Act.put, List.setIfInBounds_toArray, List.set_cons_zero, List.set_cons_succ]
    refine takeL 4 rfl (v := ?_) (by kernel_rfl) (by kernel_rfl) (by kernel_rfl) (by exact fun _ _ _ h => h) (Or.inl ⟨by rfl, ?_⟩) ⟨[], [], hst⟩ ?_
    rotate_left 1
    · intro w' hSw; go_simp; try with_reducible rfl
    try simp only [Act.put, List.setIfInBounds_toArray, List.set_cons_zero, List.set_cons_succ]
    refine takeL 7 rfl (v := ?_) (by kernel_rfl) (by kernel_rfl) (by kernel_rfl) (by exact fun _ _ _ h => h) (Or.inl ⟨by rfl, ?_⟩) ⟨[], [], hst⟩ ?_
    rotate_left 1
    · intro w' hSw; go_simp; try with_reducible rfl
    try simp only [Act.put, List.setIfInBounds_toArray, List.set_cons_zero, List.set_cons_succ]
    refine takeL 8 rfl (by kernel_rfl) (by kernel_rfl) (by kernel_rfl) (by exact fun _ _ _ h => h) (y_str (by rfl) rfl Try.underlying22 Try.underlying5 Try.underlying9 rfl (Rds.slG 0 rfl) rfl) ⟨[], [], hst⟩ ?_
    try simp only [Act.put, List.setIfInBounds_toArray, List.set_cons_zero, List.set_cons_succ]
    refine nextL 5 rfl (by kernel_rfl) (fun K hK => ?_)
    refine r_lit1 hst (by rfl) rfl Try.underlying38 rfl (fun _ => Try.sizeOf22 _) rfl (fun _ => Try.zeroValue22 _) (by decide) ?_
    clear hst; intro b1 w1 hst; try simp only [Act.eval, Act.put, List.setIfInBounds_toArray, List.set_cons_zero, List.set_cons_succ, Array.getD_eq_getD_getElem?, List.getElem?_toArray, List.getElem?_cons_zero, List.getElem?_cons_succ, Option.getD_some, Value.cells, List.toList_toArray] at hst ⊢
    refine hK.out _ _ ⟨[_], [], hst⟩ (fun _ => ?_); clear hK K
    try simp only [Act.put, List.setIfInBounds_toArray, List.set_cons_zero, List.set_cons_succ]
    refine nextL 6 rfl (by kernel_rfl) (fun K hK => ?_)
    go_simp
    refine use_call (sum_any (.slice (some ⟨b1, 0, none⟩) 1 1) [.slice A l.length cap] [l] _ ((Rds.ofCells 0 rfl 1 1).sl hst) ⟨⟨(Rds.slG 0 rfl).sl hst, hl⟩, trivial⟩ (by simp)) (by simp [Act.eval]) ?_
    rintro e w' ⟨rfl, rfl⟩
    refine hK.out _ _ ⟨[_], [], hst⟩ (fun _ => ?_); clear hK K
    try simp only [Act.put, List.setIfInBounds_toArray, List.set_cons_zero, List.set_cons_succ]
    refine nextL 9 rfl (by kernel_rfl) (fun K hK => ?_)
    go_simp
    refine use_call (refsum_any (str l) _ hl) (by simp [Act.eval]) ?_
    rintro e w' ⟨rfl, rfl⟩
    refine hK.out _ _ ⟨[_], [], hst⟩ (fun _ => ?_); clear hK K
    try simp only [Act.put, List.setIfInBounds_toArray, List.set_cons_zero, List.set_cons_succ]
    refine takeL 10 rfl (v := ?_) (by kernel_rfl) (by kernel_rfl) (by kernel_rfl) (by exact fun _ _ _ h => h) (Or.inl ⟨by rfl, ?_⟩) ⟨[_], [], hst⟩ ?_
    rotate_left 1
    · intro w' hSw; go_simp; try with_reducible rfl
    try simp only [Act.put, List.setIfInBounds_toArray, List.set_cons_zero, List.set_cons_succ]
    refine takeL 11 rfl (v := ?_) (by kernel_rfl) (by kernel_rfl) (by kernel_rfl) (by exact fun _ _ _ h => h) (Or.inl ⟨by rfl, ?_⟩) ⟨[_], [], hst⟩ ?_
    rotate_left 1
    · intro w' hSw; go_simp; try with_reducible rfl
    try simp only [Act.put, List.setIfInBounds_toArray, List.set_cons_zero, List.set_cons_succ]
    refine takeL 12 rfl (v := ?_) (by kernel_rfl) (by kernel_rfl) (by kernel_rfl) (by exact fun _ _ _ h => h) (Or.inl ⟨by rfl, ?_⟩) ⟨[_], [], hst⟩ ?_
    rotate_left 1
    · intro w' hSw; go_simp; try with_reducible rfl
    try simp only [Act.put, List.setIfInBounds_toArray, List.set_cons_zero, List.set_cons_succ]
    refine wpAnyH_done (by kernel_rfl) ?_ _
    go_wp2
    go_ret
    exact ⟨by simp, hst.below⟩
  · have hd : decide (16384 < (l.length : Int)) = true := by simp; omega
    go_enter Try.func3, Try.ntmps3
    go_wp2_with (go_at_call 9; refine use_call (alive_any _ _ _ _ _ hst) rfl ?_; clear hst; rintro e w1 ⟨rfl, hst⟩)
    refine wp_region_held_drew (S := Ctx _ _ ([]) ([slR (.slice A l.length cap) l.length (bvs l)])) (by kernel_rfl) ⟨[], [], hst.drew⟩ (fun hHeld => ?_)
    replace hst := hst.drew
    generalize World.drew _ = wd at hst hHeld ⊢; clear hHeld
    refine takeL 0 rfl (v := ?_) (by kernel_rfl) (by kernel_rfl) (by kernel_rfl) (by exact fun _ _ _ h => h) (Or.inl ⟨by rfl, ?_⟩) ⟨[], [], hst⟩ ?_
    rotate_left 1
    · intro w' hSw; go_simp; try with_reducible rfl
    try simp only [Act.put, List.setIfInBounds_toArray, List.set_cons_zero, List.set_cons_succ]
    refine takeL 1 rfl (v := ?_) (by kernel_rfl) (by kernel_rfl) (by kernel_rfl) (by exact fun _ _ _ h => h) (Or.inl ⟨by rfl, ?_⟩) ⟨[], [], hst⟩ ?_
    rotate_left 1
    · intro w' hSw; go_simp; try with_reducible rfl
    try simp only [Act.put, List.setIfInBounds_toArray, List.set_cons_zero, List.set_cons_succ]
    refine takeL 2 rfl (v := ?_) (by kernel_rfl) (by kernel_rfl) (by kernel_rfl) (by exact fun _ _ _ h => h) (Or.inl ⟨by rfl, ?_⟩) ⟨[], [], hst⟩ ?_
    rotate_left 1
    · intro w' hSw; go_simp; try with_reducible rfl
    try simp only [Act.put, List.setIfInBounds_toArray, List.set_cons_zero, List.set_cons_succ]
    refine takeL 3 rfl (v := ?_) (by kernel_rfl) (by kernel_rfl) (by kernel_rfl) (by exact fun _ _ _ h => h) (Or.inl ⟨by rfl, ?_⟩) ⟨[], [], hst⟩ ?_
    rotate_left 1
    · intro w' hSw; go_simp; try with_reducible rfl
    try simp only [Act.put, List.setIfInBounds_toArray, List.set_cons_zero, List.set_cons_succ]
    refine takeL 4 rfl (v := undef) (by kernel_rfl) (by kernel_rfl) (by kernel_rfl) (by exact fun _ _ _ h => h) (Or.inr ⟨by rfl, rfl⟩) ⟨[], [], hst⟩ ?_
    try simp only [Act.put, List.setIfInBounds_toArray, List.set_cons_zero, List.set_cons_succ]
    refine takeL 5 rfl (v := undef) (by kernel_rfl) (by kernel_rfl) (by kernel_rfl) (by exact fun _ _ _ h => h) (Or.inr ⟨by rfl, rfl⟩) ⟨[], [], hst⟩ ?_
    try simp only [Act.put, List.setIfInBounds_toArray, List.set_cons_zero, List.set_cons_succ]
    refine takeL 6 rfl (v := undef) (by kernel_rfl) (by kernel_rfl) (by kernel_rfl) (by exact fun _ _ _ h => h) (Or.inr ⟨by rfl, rfl⟩) ⟨[], [], hst⟩ ?_
    try simp only [Act.put, List.setIfInBounds_toArray, List.set_cons_zero, List.set_cons_succ]
    refine takeL 7 rfl (v := undef) (by kernel_rfl) (by kernel_rfl) (by kernel_rfl) (by exact fun _ _ _ h => h) (Or.inr ⟨by rfl, rfl⟩) ⟨[], [], hst⟩ ?_
    try simp only [Act.put, List.setIfInBounds_toArray, List.set_cons_zero, List.set_cons_succ]
    refine takeL 8 rfl (v := undef) (by kernel_rfl) (by kernel_rfl) (by kernel_rfl) (by exact fun _ _ _ h => h) (Or.inr ⟨by rfl, rfl⟩) ⟨[], [], hst⟩ ?_
    try simp only [Act.put, List.setIfInBounds_toArray, List.set_cons_zero, List.set_cons_succ]
    refine takeL 9 rfl (v := undef) (by kernel_rfl) (by kernel_rfl) (by kernel_rfl) (by exact fun _ _ _ h => h) (Or.inr ⟨by rfl, rfl⟩) ⟨[], [], hst⟩ ?_
    try simp only [Act.put, List.setIfInBounds_toArray, List.set_cons_zero, List.set_cons_succ]
    refine takeL 10 rfl (v := undef) (by kernel_rfl) (by kernel_rfl) (by kernel_rfl) (by exact fun _ _ _ h => h) (Or.inr ⟨by rfl, rfl⟩) ⟨[], [], hst⟩ ?_
    try simp only [Act.put, List.setIfInBounds_toArray, List.set_cons_zero, List.set_cons_succ]
    refine takeL 11 rfl (v := ?_) (by kernel_rfl) (by kernel_rfl) (by kernel_rfl) (by exact fun _ _ _ h => h) (Or.inl ⟨by rfl, ?_⟩) ⟨[], [], hst⟩ ?_
    rotate_left 1
    · intro w' hSw; go_simp; try with_reducible rfl
    try simp only [Act.put, List.setIfInBounds_toArray, List.set_cons_zero, List.set_cons_succ]
    refine takeL 12 rfl (v := ?_) (by kernel_rfl) (by kernel_rfl) (by kernel_rfl) (by exact fun _ _ _ h => h) (Or.inl ⟨by rfl, ?_⟩) ⟨[], [], hst⟩ ?_
    rotate_left 1
    · intro w' hSw; go_simp; try with_reducible rfl
    try simp only [Act.put, List.setIfInBounds_toArray, List.set_cons_zero, List.set_cons_succ]
    refine wpAnyH_done (by kernel_rfl) ?_ _
    go_wp2
    go_ret
    exact ⟨by simp, hst.below⟩
end Go.Proofs.Ytphnnhbneinejaa.CW
