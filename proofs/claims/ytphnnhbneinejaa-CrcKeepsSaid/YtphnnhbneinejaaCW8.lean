/- The walk of CrcKeeps. -/
import Derived.Test.YtphnnhbneinejaaCW5
set_option linter.unusedVariables false
set_option linter.unusedSimpArgs false
namespace Go.Proofs.Ytphnnhbneinejaa.CW
open Go.RowKit Go.Proofs.Ytphnnhbneinejaa.K Go.Proofs.Ytphnnhbneinejaa.CM
attribute [local irreducible] iv crc more reg turns

theorem bvs_nil {l : List UInt8} (h : bvs l = []) : l = [] := by
  cases l with
  | nil => rfl
  | cons x l => simp [bvs] at h
theorem St.rds {w0 w : World} {F0 : List Nat} {L G : List Res} {v : Value} {e : TypeId} {size n : Nat} {xs : List Value} (hst : St w0 F0 w L G) (j : Nat) (hL : L[j]? = some (rowR v e size n xs)) : Rds L G v n xs := Rds.rowL j hL
theorem inc8 (x : UInt8) : ((x.toNat : Int) + 1) % 256 = (((x + 1 : UInt8)).toNat : Int) := by rw [UInt8.toNat_add]; simp

theorem Sl.dropB {w : World} {g o n c k : Nat} {l : List UInt8} (h : Sl w (.slice (some ⟨g, o, none⟩) n c) n (bvs l)) (hn : n = l.length) (hk : k ≤ n) : Sl w (.slice (some ⟨g, o + k, none⟩) (n - k) (c - k)) (n - k) (bvs (l.drop k)) := by
  obtain ⟨A', cap, he, hcap, hA⟩ := h
  injection he with h1 h2 h3
  subst h1; subst h3
  refine ⟨_, _, rfl, by omega, fun hx => ⟨_, rfl, fun j hj => ?_⟩⟩
  obtain ⟨ad, he, hc⟩ := hA (fun h => hx (by rw [bvs_nil h]; simp [bvs]))
  injection he with he
  subst he
  simp only [bvs_length, List.length_drop] at hj
  have h2 := hc (k + j) (by simp; omega)
  rw [add_lit'] at h2 ⊢
  rw [show o + k + j = o + (k + j) by omega, h2]
  simp [bvs]
theorem Rds.dropB {L G : List Res} {g o n c k : Nat} {l : List UInt8} (h : Rds L G (.slice (some ⟨g, o, none⟩) n c) n (bvs l)) (hn : n = l.length) (hk : k ≤ n) : Rds L G (.slice (some ⟨g, o + k, none⟩) (n - k) (c - k)) (n - k) (bvs (l.drop k)) := by
  obtain ⟨r, hr, hi⟩ := h
  exact ⟨r, hr, fun w hw => Sl.dropB (hi w hw) hn hk⟩

set_option maxHeartbeats 8000000 in
theorem CrcKeeps_walk (v : Value) (l : List UInt8) (w : World) (h : Sl w v l.length (bvs l)) (hm : l.length ≤ 9223372036854775807) :
    Calls Try.prog 8 #[v] w fun e w' => e = .returned (.bool true) ∧ Below w.heap.size w w' := by
  have hst := (St.start w).arg h
  obtain ⟨A, c, rfl, -, -⟩ := h
  by_cases hlen : l.length ≤ 8192
  · have hl : l.length ≤ 140737488355320 := by omega
    have hd : decide (8192 < (l.length : Int)) = false := by simp; omega
    have hsl := Lib.hid (sealed_length l)
    have ht0 : (l ++ [120, 121, 122, 117, 118]).take l.length = l := List.take_left
    have ht := Lib.hid ht0
    clear ht0
    have hdr0 : (l ++ [120, 121, 122, 117, 118]).drop l.length = [120, 121, 122, 117, 118] := List.drop_left
    have hdr := Lib.hid hdr0
    clear hdr0
    go_enter Try.func8, Try.ntmps8
    go_wp2_with (first
      | (go_at_call 9; refine use_call (alive_any _ _ _ _ _ hst) rfl ?_; clear hst; rintro e w1 ⟨rfl, hst⟩)
      | (refine wpList_opK ?_
         first
         | (refine r_litRow hst (by rfl) rfl Try.underlying22 (fun _ => Try.sizeOf5 _) ?_; clear hst; rintro v2 w1 hst -; try simp only [Act.eval, Act.put, List.setIfInBounds_toArray, List.set_cons_zero, List.set_cons_succ, Array.getD_eq_getD_getElem?, List.getElem?_toArray, List.getElem?_cons_zero, List.getElem?_cons_succ, Option.getD_some, Value.cells, List.toList_toArray] at hst ⊢)
         | (refine r_lits hst (by rfl) rfl (vs := bvs [120, 121, 122, 117, 118]) rfl rfl rfl Try.underlying22 (fun _ => Try.sizeOf5 _) (fun _ => Try.zeroValue5 _) (by decide) ?_; clear hst; intro b3 w1 hst; try simp only [Act.eval, Act.put, List.setIfInBounds_toArray, List.set_cons_zero, List.set_cons_succ, Array.getD_eq_getD_getElem?, List.getElem?_toArray, List.getElem?_cons_zero, List.getElem?_cons_succ, Option.getD_some, Value.cells, List.toList_toArray] at hst ⊢)
         | (refine r_append hst 0 (by rfl) rfl Try.underlying22 info8 rfl (by decide) (v := v2) (n := 0) (xs := []) rfl rfl (m := l.length) (news := bvs l) rfl (Rds.slG 0 rfl) (by simp) (bvs_ones _) (by simp only [maxLen]; omega) (by omega) ?_; clear hst; rintro v3 w1 hst -; try simp only [Act.eval, Act.put, List.setIfInBounds_toArray, List.set_cons_zero, List.set_cons_succ, Array.getD_eq_getD_getElem?, List.getElem?_toArray, List.getElem?_cons_zero, List.getElem?_cons_succ, Option.getD_some, Value.cells, List.toList_toArray] at hst ⊢)
         | (refine r_append hst 1 (by rfl) rfl Try.underlying22 info8 rfl (by decide) (v := v3) (n := 0 + l.length) (xs := [] ++ bvs l) rfl rfl (m := 5) (news := bvs [120, 121, 122, 117, 118]) rfl (Rds.ofCells 0 rfl 5 5) (by simp) (bvs_ones _) (by simp only [maxLen]; omega) (by omega) ?_; clear hst; rintro v4 w1 hst -; try simp only [Act.eval, Act.put, List.setIfInBounds_toArray, List.set_cons_zero, List.set_cons_succ, Array.getD_eq_getD_getElem?, List.getElem?_toArray, List.getElem?_cons_zero, List.getElem?_cons_succ, Option.getD_some, Value.cells, List.toList_toArray] at hst ⊢
            simp only [Nat.zero_add, List.nil_append, ← bvs_append, List.set_cons_succ, List.set_cons_zero] at hst
            obtain ⟨g, cp, rfl, hcp⟩ := row_at (hst.res _ (List.mem_cons_of_mem _ (List.mem_cons_self ..))) (by omega)))
      | (go_at_call 13
         have hr := Rds.take (m := l.length) (St.rds hst 1 rfl) (by simp) (by omega)
         rw [ht.out] at hr
         refine use_call (seal_any (.slice (some ⟨g, 0, none⟩) l.length cp) l _ _ _ _ _ hst hr hl) rfl ?_; clear hr hst; rintro e w1 ⟨b1, rfl, hst⟩)
      | (go_at_call 14
         refine use_call (open_yes (.slice (some ⟨b1, 0, none⟩) (l.length + 4) (l.length + 4)) l _ _ _ _ _ hst (Rds.ofCells 0 rfl _ _) hl) rfl ?_; clear hst; rintro e w1 ⟨u, rfl, hst⟩
         obtain ⟨A2, c2, rfl, -⟩ := rowR_shape (hst.res _ (List.mem_cons_self ..))))
    go_loopw [32] (fun i wr => ∃ (k : Nat) (xs : List UInt8), k ≤ l.length ∧ i = .int .i64 k ∧ xs.length = l.length ∧
      St w [] wr [rowR (.slice A2 l.length c2) 5 1 l.length (bvs xs), cellsR b1 (bvs (sealed l)) 5, cellsR b3 (bvs [120, 121, 122, 117, 118]) 5,
        rowR (.slice (some ⟨g, 0, none⟩) (l.length + 5) cp) 5 1 (l.length + 5) (bvs (l ++ [120, 121, 122, 117, 118]))] [slR (.slice A l.length c) l.length (bvs l)]) (fun i _ => l.length - (intOf i).toNat)
    case atStart => exact ⟨0, l, by omega, rfl, rfl, hst⟩
    case round =>
      clear hst
      obtain ⟨k, xs, hk, rfl, hxs, hst⟩ := hrel
      by_cases hlt : k < l.length
      · obtain ⟨g2, c3, he, hc3⟩ := row_at (hst.res _ (List.mem_cons_self ..)) (by omega)
        injection he with he1 he2 he3
        subst he1 he3
        obtain ⟨x, hx⟩ : ∃ x, xs[k]? = some x := ⟨_, List.getElem?_eq_getElem (by omega)⟩
        have hxc : (bvs xs)[k]? = some (.int .u8 (x.toNat : Int)) := by simp [bvs, hx, bv]
        have hxc' := Lib.hid hxc
        have hset : (bvs xs).set k (.int .u8 (((x + 1 : UInt8)).toNat : Int)) = bvs (xs.set k (x + 1)) := by
          unfold bvs
          rw [List.map_set]
          rfl
        have hset' := Lib.hid hset
        have hxs' := Lib.hid hxs
        clear hxc hset hx hxs he2
        have hin := Lib.hid (inc8 x)
        go_wp2_with (first
          | (refine wpList_opK ?_
             first
             | (refine r_loadRow hst 0 (by rfl) rfl rfl rfl (by omega) (fun _ => Try.isAgg5 _) hxc'.out ?_)
             | (refine r_storeRow hst 0 (by rfl) rfl rfl rfl (by omega) (v := .int .u8 (((x.toNat : Int) + 1) % 256)) rfl (fun _ => Try.sizeOf5 _) rfl ?_; clear hst; intro w2 hst; simp only [List.set_cons_zero] at hst; rw [hin.out, hset'.out] at hst; try simp only [Act.eval, Act.put, List.setIfInBounds_toArray, List.set_cons_zero, List.set_cons_succ, Array.getD_eq_getD_getElem?, List.getElem?_toArray, List.getElem?_cons_zero, List.getElem?_cons_succ, Option.getD_some, Value.cells, List.toList_toArray] at hst ⊢)))
        go_roundw
        case rel => exact ⟨k + 1, xs.set k (x + 1), by omega, by go_num, by simp [hxs'.out], hst⟩
        case measure => simp [intOf]; omega
      · have hxs' := Lib.hid hxs
        clear hxs
        go_wp2_with (go_at_call 14; refine use_call (open_yes (.slice (some ⟨b1, 0, none⟩) (l.length + 4) (l.length + 4)) l _ _ _ _ _ hst (Rds.ofCells 1 rfl _ _) hl) rfl ?_; clear hst; rintro e w1 ⟨u3, rfl, hst⟩)
        have hy : l.length + 5 - l.length = 5 := by omega
        have hy' := Lib.hid hy
        clear hy
        have hcp2 : l.length ≤ cp := by omega
        have hcp3 : ¬ cp = l.length := by omega
        have hcp4 : (l.length : Int) ≤ (l.length : Int) + 5 := by omega
        have R4 := St.rds hst 4 rfl
        have q6 := Rds.take (m := l.length) R4 (by simp) (by omega)
        rw [ht.out] at q6
        have q16 := Rds.dropB (o := 0) (k := l.length) R4 (by simp) (by omega)
        rw [hdr.out, hy'.out, Nat.zero_add] at q16
        clear R4
        have hq2 : (str [120, 121, 122, 117, 118]).toList = [120, 121, 122, 117, 118] := str_toList _
        have hq3 : (ByteArray.mk #[120, 121, 122, 117, 118]).toList = [120, 121, 122, 117, 118] := str_toList [120, 121, 122, 117, 118]
        refine wp_region_held_drew (S := Ctx _ _ ([rowR u3 5 1 l.length (bvs l), rowR (.slice A2 l.length c2) 5 1 l.length (bvs xs), cellsR b1 (bvs (sealed l)) 5, cellsR b3 (bvs [120, 121, 122, 117, 118]) 5, rowR (.slice (some ⟨g, 0, none⟩) (l.length + 5) cp) 5 1 (l.length + 5) (bvs (l ++ [120, 121, 122, 117, 118]))]) ([slR (.slice A l.length c) l.length (bvs l)])) (by kernel_rfl) ⟨[], [], hst.drew⟩ (fun hHeld => ?_)
        replace hst := hst.drew
        generalize World.drew _ = wd at hst hHeld ⊢; clear hHeld
        refine takeL 0 rfl (v := ?_) (by kernel_rfl) (by kernel_rfl) (by kernel_rfl) (by exact fun _ _ _ h => h) (Or.inl ⟨by rfl, ?_⟩) ⟨[], [], hst⟩ ?_
        rotate_left 1
        · intro w' hSw; go_simp; try with_reducible rfl
        try simp only [Act.put, List.setIfInBounds_toArray, List.set_cons_zero, List.set_cons_succ]
        refine takeL 1 rfl (v := ?_) (by kernel_rfl) (by kernel_rfl) (by kernel_rfl) (by exact fun _ _ _ h => h) (Or.inl ⟨by rfl, ?_⟩) ⟨[], [], hst⟩ ?_
        rotate_left 1
        · intro w' hSw; go_simp; try with_reducible rfl
        try simp only [Act.put, List.setIfInBounds_toArray, List.set_cons_zero, List.set_cons_succ]
        refine takeL 2 rfl (v := ?_) (by kernel_rfl) (by kernel_rfl) (by kernel_rfl) (by exact fun _ _ _ h => h) (Or.inl ⟨by rfl, ?_⟩) ⟨[], [], hst⟩ ?_
        rotate_left 1
        · intro w' hSw; go_simp; try with_reducible rfl
        try simp only [Act.put, List.setIfInBounds_toArray, List.set_cons_zero, List.set_cons_succ]
        refine takeL 3 rfl (v := ?_) (by kernel_rfl) (by kernel_rfl) (by kernel_rfl) (by exact fun _ _ _ h => h) (Or.inl ⟨by rfl, ?_⟩) ⟨[], [], hst⟩ ?_
        rotate_left 1
        · intro w' hSw; go_simp; try with_reducible rfl
        try simp only [Act.put, List.setIfInBounds_toArray, List.set_cons_zero, List.set_cons_succ]
        refine takeL 4 rfl (v := ?_) (by kernel_rfl) (by kernel_rfl) (by kernel_rfl) (by exact fun _ _ _ h => h) (Or.inl ⟨by rfl, ?_⟩) ⟨[], [], hst⟩ ?_
        rotate_left 1
        · intro w' hSw; go_simp; try with_reducible rfl
        try simp only [Act.put, List.setIfInBounds_toArray, List.set_cons_zero, List.set_cons_succ]
        refine takeL 5 rfl (v := ?_) (by kernel_rfl) (by kernel_rfl) (by kernel_rfl) (by exact fun _ _ _ h => h) (Or.inl ⟨by rfl, ?_⟩) ⟨[], [], hst⟩ ?_
        rotate_left 1
        · intro w' hSw; go_simp; try with_reducible rfl
        try simp only [Act.put, List.setIfInBounds_toArray, List.set_cons_zero, List.set_cons_succ]
        refine takeL 6 rfl (by kernel_rfl) (by kernel_rfl) (by kernel_rfl) (by exact fun _ _ _ h => h) (y_str (by rfl) rfl Try.underlying22 Try.underlying5 Try.underlying9 (v := .slice (some ⟨g, 0, none⟩) l.length cp) rfl (l := l) q6 rfl) ⟨[], [], hst⟩ ?_
        try simp only [Act.put, List.setIfInBounds_toArray, List.set_cons_zero, List.set_cons_succ]
        refine takeL 7 rfl (v := ?_) (by kernel_rfl) (by kernel_rfl) (by kernel_rfl) (by exact fun _ _ _ h => h) (Or.inl ⟨by rfl, ?_⟩) ⟨[], [], hst⟩ ?_
        rotate_left 1
        · intro w' hSw; go_simp; try with_reducible rfl
        try simp only [Act.put, List.setIfInBounds_toArray, List.set_cons_zero, List.set_cons_succ]
        refine takeL 8 rfl (by kernel_rfl) (by kernel_rfl) (by kernel_rfl) (by exact fun _ _ _ h => h) (y_str (by rfl) rfl Try.underlying22 Try.underlying5 Try.underlying9 rfl (Rds.slG 0 rfl) rfl) ⟨[], [], hst⟩ ?_
        try simp only [Act.put, List.setIfInBounds_toArray, List.set_cons_zero, List.set_cons_succ]
        refine takeL 9 rfl (v := ?_) (by kernel_rfl) (by kernel_rfl) (by kernel_rfl) (by exact fun _ _ _ h => h) (Or.inl ⟨by rfl, ?_⟩) ⟨[], [], hst⟩ ?_
        rotate_left 1
        · intro w' hSw; go_simp; try with_reducible rfl
        try simp only [Act.put, List.setIfInBounds_toArray, List.set_cons_zero, List.set_cons_succ]
        refine takeL 10 rfl (v := ?_) (by kernel_rfl) (by kernel_rfl) (by kernel_rfl) (by exact fun _ _ _ h => h) (Or.inl ⟨by rfl, ?_⟩) ⟨[], [], hst⟩ ?_
        rotate_left 1
        · intro w' hSw; go_simp; try with_reducible rfl
        try simp only [Act.put, List.setIfInBounds_toArray, List.set_cons_zero, List.set_cons_succ]
        refine takeL 11 rfl (v := ?_) (by kernel_rfl) (by kernel_rfl) (by kernel_rfl) (by exact fun _ _ _ h => h) (Or.inl ⟨by rfl, ?_⟩) ⟨[], [], hst⟩ ?_
        rotate_left 1
        · intro w' hSw; go_simp; try with_reducible rfl
        try simp only [Act.put, List.setIfInBounds_toArray, List.set_cons_zero, List.set_cons_succ]
        refine takeL 12 rfl (v := ?_) (by kernel_rfl) (by kernel_rfl) (by kernel_rfl) (by exact fun _ _ _ h => h) (Or.inl ⟨by rfl, ?_⟩) ⟨[], [], hst⟩ ?_
        rotate_left 1
        · intro w' hSw; go_simp; try with_reducible rfl
        try simp only [Act.put, List.setIfInBounds_toArray, List.set_cons_zero, List.set_cons_succ]
        refine takeL 13 rfl (v := ?_) (by kernel_rfl) (by kernel_rfl) (by kernel_rfl) (by exact fun _ _ _ h => h) (Or.inl ⟨by rfl, ?_⟩) ⟨[], [], hst⟩ ?_
        rotate_left 1
        · intro w' hSw; go_simp; try with_reducible rfl
        try simp only [Act.put, List.setIfInBounds_toArray, List.set_cons_zero, List.set_cons_succ]
        refine takeL 14 rfl (v := ?_) (by kernel_rfl) (by kernel_rfl) (by kernel_rfl) (by exact fun _ _ _ h => h) (Or.inl ⟨by rfl, ?_⟩) ⟨[], [], hst⟩ ?_
        rotate_left 1
        · intro w' hSw; go_simp; try with_reducible rfl
        try simp only [Act.put, List.setIfInBounds_toArray, List.set_cons_zero, List.set_cons_succ]
        refine takeL 15 rfl (v := ?_) (by kernel_rfl) (by kernel_rfl) (by kernel_rfl) (by exact fun _ _ _ h => h) (Or.inl ⟨by rfl, ?_⟩) ⟨[], [], hst⟩ ?_
        rotate_left 1
        · intro w' hSw; go_simp; try with_reducible rfl
        try simp only [Act.put, List.setIfInBounds_toArray, List.set_cons_zero, List.set_cons_succ]
        refine takeL 16 rfl (by kernel_rfl) (by kernel_rfl) (by kernel_rfl) (by exact fun _ _ _ h => h) (y_str (by rfl) rfl Try.underlying22 Try.underlying5 Try.underlying9 (v := .slice (some ⟨g, l.length, none⟩) 5 (cp - l.length)) rfl (l := [120, 121, 122, 117, 118]) (n := 5) q16 rfl) ⟨[], [], hst⟩ ?_
        try simp only [Act.put, List.setIfInBounds_toArray, List.set_cons_zero, List.set_cons_succ]
        refine takeL 17 rfl (v := ?_) (by kernel_rfl) (by kernel_rfl) (by kernel_rfl) (by exact fun _ _ _ h => h) (Or.inl ⟨by rfl, ?_⟩) ⟨[], [], hst⟩ ?_
        rotate_left 1
        · intro w' hSw; go_simp; try with_reducible rfl
        try simp only [Act.put, List.setIfInBounds_toArray, List.set_cons_zero, List.set_cons_succ]
        refine takeL 18 rfl (v := ?_) (by kernel_rfl) (by kernel_rfl) (by kernel_rfl) (by exact fun _ _ _ h => h) (Or.inl ⟨by rfl, ?_⟩) ⟨[], [], hst⟩ ?_
        rotate_left 1
        · intro w' hSw; go_simp; try with_reducible rfl
        try simp only [Act.put, List.setIfInBounds_toArray, List.set_cons_zero, List.set_cons_succ]
        refine takeL 19 rfl (v := ?_) (by kernel_rfl) (by kernel_rfl) (by kernel_rfl) (by exact fun _ _ _ h => h) (Or.inl ⟨by rfl, ?_⟩) ⟨[], [], hst⟩ ?_
        rotate_left 1
        · intro w' hSw; go_simp; try with_reducible rfl
        try simp only [Act.put, List.setIfInBounds_toArray, List.set_cons_zero, List.set_cons_succ]
        refine takeL 20 rfl (v := ?_) (by kernel_rfl) (by kernel_rfl) (by kernel_rfl) (by exact fun _ _ _ h => h) (Or.inl ⟨by rfl, ?_⟩) ⟨[], [], hst⟩ ?_
        rotate_left 1
        · intro w' hSw; go_simp; try with_reducible rfl
        try simp only [Act.put, List.setIfInBounds_toArray, List.set_cons_zero, List.set_cons_succ]
        refine takeL 21 rfl (by kernel_rfl) (by kernel_rfl) (by kernel_rfl) (by exact fun _ _ _ h => h) (y_str (by rfl) rfl Try.underlying22 Try.underlying5 Try.underlying9 rfl (l := l) (Rds.rowL 0 rfl) rfl) ⟨[], [], hst⟩ ?_
        try simp only [Act.put, List.setIfInBounds_toArray, List.set_cons_zero, List.set_cons_succ]
        refine takeL 22 rfl (v := ?_) (by kernel_rfl) (by kernel_rfl) (by kernel_rfl) (by exact fun _ _ _ h => h) (Or.inl ⟨by rfl, ?_⟩) ⟨[], [], hst⟩ ?_
        rotate_left 1
        · intro w' hSw; go_simp; try with_reducible rfl
        try simp only [Act.put, List.setIfInBounds_toArray, List.set_cons_zero, List.set_cons_succ]
        refine takeL 23 rfl (by kernel_rfl) (by kernel_rfl) (by kernel_rfl) (by exact fun _ _ _ h => h) (y_str (by rfl) rfl Try.underlying22 Try.underlying5 Try.underlying9 rfl (Rds.slG 0 rfl) rfl) ⟨[], [], hst⟩ ?_
        try simp only [Act.put, List.setIfInBounds_toArray, List.set_cons_zero, List.set_cons_succ]
        refine takeL 24 rfl (v := ?_) (by kernel_rfl) (by kernel_rfl) (by kernel_rfl) (by exact fun _ _ _ h => h) (Or.inl ⟨by rfl, ?_⟩) ⟨[], [], hst⟩ ?_
        rotate_left 1
        · intro w' hSw; go_simp; try with_reducible rfl
        try simp only [Act.put, List.setIfInBounds_toArray, List.set_cons_zero, List.set_cons_succ]
        refine takeL 25 rfl (v := ?_) (by kernel_rfl) (by kernel_rfl) (by kernel_rfl) (by exact fun _ _ _ h => h) (Or.inl ⟨by rfl, ?_⟩) ⟨[], [], hst⟩ ?_
        rotate_left 1
        · intro w' hSw; go_simp; try with_reducible rfl
        try simp only [Act.put, List.setIfInBounds_toArray, List.set_cons_zero, List.set_cons_succ]
        refine takeL 26 rfl (v := ?_) (by kernel_rfl) (by kernel_rfl) (by kernel_rfl) (by exact fun _ _ _ h => h) (Or.inl ⟨by rfl, ?_⟩) ⟨[], [], hst⟩ ?_
        rotate_left 1
        · intro w' hSw; go_simp; try with_reducible rfl
        try simp only [Act.put, List.setIfInBounds_toArray, List.set_cons_zero, List.set_cons_succ]
        refine wpAnyH_done (by kernel_rfl) ?_ _
        go_wp2
        go_ret
        exact ⟨by simp, hst.below⟩
  · have hd : decide (8192 < (l.length : Int)) = true := by simp; omega
    go_enter Try.func8, Try.ntmps8
    go_wp2_with (go_at_call 9; refine use_call (alive_any _ _ _ _ _ hst) rfl ?_; clear hst; rintro e w1 ⟨rfl, hst⟩)
    go_ret
    exact ⟨by simp, hst.below⟩
end Go.Proofs.Ytphnnhbneinejaa.CW
