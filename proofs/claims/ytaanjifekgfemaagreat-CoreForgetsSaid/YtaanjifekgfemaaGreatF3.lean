/- What the proof rests on, part 3. -/
import Derived.Test.YtaanjifekgfemaaGreatF2
set_option linter.unusedVariables false
set_option linter.unusedSimpArgs false
set_option linter.unusedSectionVars false
section
namespace Go.Proofs.YtaanjifekgfemaaGreat.J
open Tryz
open Go.RowKit Go.Shelf Go.Sort
attribute [local go_sem] Oper.semAt_some
def upto {α : Type} (f : Nat → α) (k : Nat) : List α := (List.range k).map f
theorem U3 {α : Type} (f : Nat → α) (k : Nat) : upto f (k + 1) = upto f k ++ [f k] := by simp [upto, List.range_succ]
theorem Zr {α : Type} (f : Nat → α) (k : Nat) : (upto f k).length = k := by simp [upto]
theorem A74 (zs : List Int) : upto (fun j => zs[j]?.getD 0) zs.length = zs := by
 apply List.ext_getElem
 ·simp [upto]
 ·intro i h1 h2; simp [upto, h2]
theorem Au1 (zs : List Int) {k : Nat} (hk : k ≤ zs.length) : upto (fun j => zs[j]?.getD 0) k = zs.take k := by
 apply List.ext_getElem
 ·simp [upto, hk]
 ·intro i h1 h2; have : i < zs.length := by simp [upto] at h1; omega
  simp [upto, this]
set_option maxRecDepth 100000 in
set_option maxHeartbeats 2000000 in
theorem Ag3 (F : Fence) (n : Nat) (h7 : F.fn 151) (hro : F.round = none) (hn : 1 ≤ n) (l Bs n₀ b off len cap : Nat) (zs : List Int) (hreach : len * 8 ≤ 140737488351232) (hb : b < n₀) (J Jx : List Int → World → Prop)
  (hY : ∀ pre x W, J pre W → pre.length < len → YieldAt F (n - 1) Tryz.prog l #[.int .i64 x] W fun e W' =>
   (e = .returned (.bool true) ∧ J (pre ++ [x]) W' ∧ Below n₀ W W') ∨ (e = .returned (.bool false) ∧ Jx (pre ++ [x]) W'))
  (W : World) (hBs : W.cell? ⟨Bs, 0, none⟩ = some (.slice (some ⟨b, off, none⟩) len cap)) (hc : ∀ j, j < len → W.cell? ⟨b, off + j, none⟩ = some (.int .i64 (zs[j]?.getD 0))) (h0 : J [] W) :
  CallsIn F n Tryz.prog 151 #[.func (.yield l) #[] #[], .pointer (some ⟨Bs, 0, none⟩)] W fun e W' => (∃ v, e = .returned v) ∧
   ((∃ ys, ys = upto (fun j => zs[j]?.getD 0) len ∧ J ys W') ∨ (∃ pre, (∃ k, k ≤ len ∧ pre = upto (fun j => zs[j]?.getD 0) k) ∧ Jx pre W')) := by
 refine callsIn_of_wp func151 rfl h7 ?_ hro; simp only [ntmps151, List.size_toArray, List.length_cons, List.length_nil, Nat.reduceAdd, Nat.reduceSub, Array.replicate_succ, Array.replicate_zero, List.push_toArray, List.append_toArray, List.nil_append, List.cons_append]
 gi_wp2
 gi_loopw [7] (fun i wr => ∃ k : Nat, k ≤ len ∧ i = .int .i64 k ∧ J (upto (fun j => zs[j]?.getD 0) k) wr ∧ Below n₀ W wr)
  (fun i _ => len - (intOf i).toNat)
 case atStart => exact ⟨0, Nat.zero_le _, rfl, h0, Below.refl _ _⟩
 case round =>
  obtain ⟨k, hk, rfl, hJs, hnx⟩ := hrel; have hcx : k < len → wr.cell? ⟨b, off + k, none⟩ = some (.int .i64 (zs[k]?.getD 0)) := fun h => (hnx.cell (p := ⟨b, off + k, none⟩) hb).trans (hc k h)
  by_cases hlt : k < len
  ·obtain ⟨fn, tmps, assign, body, hy, hR⟩ := hY _ (zs[k]?.getD 0) wr hJs (by rw [Zr]; exact hlt); have hcx' := hcx hlt
   gi_wp2
   refine hR.mono ?_; rintro e W3 (⟨rfl, hJ3, hk3⟩ | ⟨rfl, hJx3⟩)
   ·gi_wp2
    go_roundw
    case rel => exact ⟨k + 1, by omega, by simp, by rw [U3]; exact hJ3, hnx.trans hk3⟩
    case measure => simp [intOf]; omega
   ·gi_wp2
    refine bodyPost_ret (results_none rfl _ _ _) rfl ?_; exact ⟨⟨_, rfl⟩, .inr ⟨_, ⟨k + 1, by omega, (U3 _ _).symm⟩, hJx3⟩⟩
  ·obtain rfl : k = len := by omega
   gi_wp2
   go_end0
   exact ⟨⟨_, rfl⟩, .inl ⟨_, rfl, hJs⟩⟩
def Ints (n₀ : Nat) (W : World) (sv : Value) (zs : List Int) : Prop :=
  (sv = .slice none 0 0 ∧ zs = []) ∨ ∃ b off cap, sv = .slice (some ⟨b, off, none⟩) zs.length cap ∧ b < n₀ ∧ ∀ j, j < zs.length → W.cell? ⟨b, off + j, none⟩ = some (.int .i64 (zs[j]?.getD 0))
theorem Ints.below {n₀ : Nat} {A B : World} (h : Below n₀ A B) {sv : Value} {zs : List Int} : Ints n₀ A sv zs → Ints n₀ B sv zs
 | .inl e => .inl e
 | .inr ⟨b, off, cap, e, hb, hc⟩ => .inr ⟨b, off, cap, e, hb, fun j hj => (h.cell (p := ⟨b, off + j, none⟩) hb).trans (hc j hj)⟩
set_option maxRecDepth 100000 in
set_option maxHeartbeats 1000000 in
theorem Sz (F : Fence) (n : Nat) (h7 : F.fn 151) (hro : F.round = none) (l Bs : Nat) (J : List Int → World → Prop) (W : World) (hBs : W.cell? ⟨Bs, 0, none⟩ = some (.slice none 0 0)) (h0 : J [] W) :
  CallsIn F n Tryz.prog 151 #[.func (.yield l) #[] #[], .pointer (some ⟨Bs, 0, none⟩)] W fun e W' => (∃ v, e = .returned v) ∧ J [] W' := by
 refine callsIn_of_wp func151 rfl h7 ?_ hro; simp only [ntmps151, List.size_toArray, List.length_cons, List.length_nil, Nat.reduceAdd, Nat.reduceSub, Array.replicate_succ, Array.replicate_zero, List.push_toArray, List.append_toArray, List.nil_append, List.cons_append]
 gi_wp2
 gi_loopw [7] (fun i wr => i = .int .i64 0 ∧ J [] wr) (fun _ _ => 0)
 case atStart => exact ⟨rfl, h0⟩
 case round =>
  obtain ⟨rfl, hJs⟩ := hrel
  gi_wp2
  go_end0
  exact ⟨⟨_, rfl⟩, hJs⟩
theorem W1 (F : Fence) (n : Nat) (h7 : F.fn 151) (hro : F.round = none) (hn : 1 ≤ n) (Bs n₀ : Nat) (sv : Value) (zs : List Int) (hreach : zs.length * 8 ≤ 140737488351232) (w : World) (hBs : Bs < w.heap.size) (hn₀ : n₀ ≤ w.heap.size)
  (hc : w.cell? ⟨Bs, 0, none⟩ = some sv) (hI : Ints n₀ w sv zs) :
  SeqStopsK F n Tryz.prog 151 #[.pointer (some ⟨Bs, 0, none⟩)] (fun x : Int => #[Value.int .i64 x]) (Below n₀) (fun ys => ys = zs) (fun pre => pre <+: zs) zs.length w := fun l J Jx W hW _ _ hY h0 => by
 have hc' := (hW.cell (p := ⟨Bs, 0, none⟩) hBs).trans hc; rcases hI.below (hW.mono hn₀) with ⟨rfl, rfl⟩ | ⟨b, off, cap, rfl, hb, hcs⟩
 ·exact (Sz F n h7 hro l Bs J W hc' h0).mono fun e W' ⟨he, hj⟩ => ⟨he, .inl ⟨_, rfl, hj⟩⟩
 ·refine (Ag3 F n h7 hro hn l Bs n₀ b off zs.length cap zs hreach hb J Jx hY W hc' hcs h0).mono ?_; rintro e W' ⟨he, ⟨ys, rfl, hj⟩ | ⟨pre, ⟨k, hk, rfl⟩, hj⟩⟩
  ·exact ⟨he, .inl ⟨_, A74 zs, hj⟩⟩
  ·exact ⟨he, .inr ⟨_, by rw [Au1 zs hk]; exact List.take_prefix _ _, hj⟩⟩
theorem Bc5 : (Tryz.prog.info? 3).map (fun i => (i.zero, i.size, i.bytes)) = some (some (.int .i64 0), 1, 8) := by kernel_rfl
set_option maxRecDepth 100000 in
set_option maxHeartbeats 2000000 in
theorem U9 (F : Fence) (n : Nat) (h3 : F.fn 153) (h5 : F.fn 151) (hro : F.round = none) (hn : 3 ≤ n) (Bs : Nat) (sv : Value) (zs : List Int) (hlen : zs.length ≤ maxLen) (hbytes : zs.length * 8 ≤ 140737488351232) (w : World) (hBs : Bs < w.heap.size) (hcB : w.cell? ⟨Bs, 0, none⟩ = some sv) (hI : Ints w.heap.size w sv zs) :
  CallsIn F n Tryz.prog 153 #[.slice none 0 0, .func (.func 151) #[] #[.pointer (some ⟨Bs, 0, none⟩)]] w fun e W' => ∃ v, e = .returned v ∧ W'.ownsRow w.heap.size 3 1 v zs.length (zs.map (Value.int .i64)) ∧ (v = .slice none 0 0 ↔ zs = []) ∧ Below w.heap.size w W' := by
 have h1 : 1 ≤ n := by omega
 obtain ⟨i0, hi, hz0, hz1, hz2⟩ := info_parts Bc5; refine callsIn_of_wp_marks func153 rfl h3 ?_ hro; simp only [ntmps153, List.size_toArray, List.length_cons, List.length_nil, Nat.reduceAdd, Nat.reduceSub, Array.replicate_succ, Array.replicate_zero, List.push_toArray, List.append_toArray, List.nil_append, List.cons_append]
 gi_wp2
 have bO := Boxed.new w 24 (.slice none 0 0); have hB0 : Below w.heap.size w (w.alloc (.cells #[.slice none 0 0] 24)) := (Below.refl _ w).alloc (Nat.le_refl _) _
 refine wpIn_rangeFunc_ownG hro h1 (gf := 151) (lb := #[.pointer (some ⟨Bs, 0, none⟩)]) rfl h5 (enters_of func151 (by kernel_rfl) rfl)
  (W1 F (n - 1) h5 hro (by omega) Bs w.heap.size sv zs hbytes _ (by simp; omega) (by simp) ((hB0.cell (p := ⟨Bs, 0, none⟩) hBs).trans hcB) (hI.below hB0)) belowK_t (belowK_b (by simp)) (Below.refl _ _) (fun _ => rfl)
  (fun pre W => (∃ v, Boxed W w.heap.size 24 v ∧ W.ownsRow w.heap.size 3 1 v pre.length (pre.map (Value.int .i64)) ∧ (v = .slice none 0 0 ↔ pre = [])) ∧ Below w.heap.size w W)
  (fun _ _ _ => False)
  (OwnFrom.and (Own.from (holdsRow_own w.heap.size w.heap.size 24 3 1 (fun pre : List Int => pre.length) (fun pre => pre.map (Value.int .i64)) (fun pre v => v = .slice none 0 0 ↔ pre = [])) _) (ownFrom_below (Nat.le_refl _) (by simp)))
  (fun _ _ _ _ _ hs _ _ => hs)
  ⟨⟨_, bO, World.ownsRow_nil _ _ _ _, by simp⟩, hB0⟩
  (fun x => { tmps := #[.slice none 0 0, .func (.func 151) #[] #[.pointer (some ⟨Bs, 0, none⟩)], .pointer (some ⟨w.heap.size, 0, none⟩), undef, .slice none 0 0, .int .i64 x, .func (.func 151) #[] #[.pointer (some ⟨Bs, 0, none⟩)], .int .i64 x, undef, undef, undef, undef, undef], defers := [] }) ?assign ?body ?done ?stop
 case assign =>
  intro l x W K hK
  gi_wp2
  exact hK
 case body =>
  rintro l pre x W ⟨⟨v, hv, hrow, hnil⟩, hB⟩ hlt; have hc := hv.cell
  gi_wp2_with (gi_at_builtin; refine wpListIn_append_own _ rfl _ _ 24 rfl w.heap.size 3 i0 (.int .i64 0) 1 8 underlying24 hi hz0 hz1 hz2 rfl (by decide) _ _ _ rfl (hrow.alloc _) ⟨W.heap.size, 0, none⟩ 1 1 [.int .i64 x] rfl rfl (cell_one_new _ _ _) (by simp [Value.oneCell']) (by omega) (by omega) (by have := hB.size; simp; omega) ?_; intro v' w1 hown' hgrow _; obtain ⟨g', cap', rfl⟩ := ownsRow_succ hown'; obtain ⟨hv1, hv2, hr2, hk2, hb2⟩ := hv.appended (by decide) hrow hB.size (Nat.le_refl _) hown' hgrow; have hc1 := hv1.cell; have hf1 := hv1.frozen)
  exact ⟨hk2.from _, hb2, ⟨_, hv2, by simpa using hr2, by simp⟩, hB.trans hb2⟩
 case done =>
  rintro D ys W hD rfl ⟨⟨v, hv, hrow, hnil⟩, hB⟩ hK; have hc := hv.cell
  gi_wp2
  refine ⟨by simp, .inl ⟨_, _, rfl, run_takeDeferred hK, ?_⟩⟩; exact ⟨_, results_tmp rfl _ _ _, v, rfl, ownsRow_putObj hrow _ hK rfl, hnil, hB.trans (belowK_b (w := w) (Nat.le_refl _) W D _ _ (by simp at hD; omega) hK rfl rfl)⟩
 case stop =>
  rintro D c pre W _ _ h _; exact h.elim
set_option maxRecDepth 100000 in
set_option maxHeartbeats 2000000 in
theorem Aax (F : Fence) (n : Nat) (h8 : F.fn 149) (h3 : F.fn 153) (h5 : F.fn 151) (hro : F.round = none) (hn : 4 ≤ n) (Bs : Nat) (sv : Value) (zs : List Int) (hlen : zs.length ≤ maxLen) (hbytes : zs.length * 8 ≤ 140737488351232) (w : World) (hBs : Bs < w.heap.size) (hcB : w.cell? ⟨Bs, 0, none⟩ = some sv) (hI : Ints w.heap.size w sv zs) :
  CallsIn F n Tryz.prog 149 #[.func (.func 151) #[] #[.pointer (some ⟨Bs, 0, none⟩)]] w fun e W' => ∃ v, e = .returned v ∧ W'.ownsRow w.heap.size 3 1 v zs.length (zs.map (Value.int .i64)) ∧ (v = .slice none 0 0 ↔ zs = []) ∧ Below w.heap.size w W' := by
 have h1 : 1 ≤ n := by omega
 refine callsIn_of_wp func149 rfl h8 ?_ hro; simp only [ntmps149, List.size_toArray, List.length_cons, List.length_nil, Nat.reduceAdd, Nat.reduceSub, Array.replicate_succ, Array.replicate_zero, List.push_toArray, List.append_toArray, List.nil_append, List.cons_append]
 gi_wp2_with (gi_at_call 153; refine (U9 F (n - 1) h3 h5 hro (by omega) Bs sv zs hlen hbytes _ hBs hcB hI).mono ?_; rintro e w' ⟨v, rfl, hrow, hnil, hb⟩)
 go_ret
 exact ⟨v, rfl, hrow, hnil, hb⟩
set_option maxRecDepth 100000 in
set_option maxHeartbeats 2000000 in
theorem sorted_in (F : Fence) (n : Nat) (h6 : F.fn 146) (h8 : F.fn 149) (h9 : F.fn 150) (h3 : F.fn 153) (h5 : F.fn 151) (hro : F.round = none) (hs1 : ∀ (blk off cap : Nat) (ss : List Int) (W : World), Holds (Value.int .i64) W blk off ss.toArray → blk < W.heap.size → ss.length < 4611686018427387904 →
  CallsIn F (n - 1) Tryz.prog 150 #[.slice (some ⟨blk, off, none⟩) ss.length cap] W fun e w' => e = .returned (.tuple #[]) ∧ ∃ k os, w' = grow (putRow (Value.int .i64) (Sort.ahead W k) blk off (ss.mergeSort fun x y => decide (x ≤ y)).toArray) os)
  (hs2 : ∀ (W : World), CallsIn F (n - 1) Tryz.prog 150 #[.slice none 0 0] W fun e w' => e = .returned (.tuple #[]) ∧ w' = W) (hn : 5 ≤ n) (Bs : Nat) (sv : Value) (zs : List Int) (hlen : zs.length ≤ 1000000000) (w : World) (hBs : Bs < w.heap.size) (hcB : w.cell? ⟨Bs, 0, none⟩ = some sv) (hI : Ints w.heap.size w sv zs) :
  CallsIn F n Tryz.prog 146 #[.func (.func 151) #[] #[.pointer (some ⟨Bs, 0, none⟩)]] w fun e W' => ∃ v, e = .returned v ∧ W'.ownsRow w.heap.size 3 1 v zs.length ((zs.mergeSort (fun x y => decide (x ≤ y))).map (Value.int .i64)) ∧ Below w.heap.size w W' := by
 have h1 : 1 ≤ n := by omega
 refine callsIn_of_wp func146 rfl h6 ?_ hro; simp only [ntmps146, List.size_toArray, List.length_cons, List.length_nil, Nat.reduceAdd, Nat.reduceSub, Array.replicate_succ, Array.replicate_zero, List.push_toArray, List.append_toArray, List.nil_append, List.cons_append]; have cC := Aax F (n - 1) h8 h3 h5 hro (by omega) Bs sv zs (by unfold maxLen; omega) (by omega) w hBs hcB hI
 gi_wp2_with (gi_at_call 149; refine cC.mono ?_; rintro e W ⟨v, rfl, hrow, hnil, hb⟩)
 rcases hrow.2 with ⟨rfl, hz⟩ | ⟨gb, cap, cur, rfl, hbase, hgb, r1, r2, r3, r4⟩
 ·have hss : zs = [] := List.eq_nil_of_length_eq_zero hz; subst hss
  gi_wp2_with (gi_at_call 150; refine (hs2 W).mono ?_; rintro e w' ⟨rfl, rfl⟩)
  go_ret
  exact ⟨.slice none 0 0, rfl, by simpa using hrow, hb⟩
 ·have hH : Holds (Value.int .i64) W gb 0 zs.toArray := Go.holds_of_blockI hgb (by simpa using r4); have hgl : gb < W.heap.size := (Array.getElem?_eq_some_iff.1 hgb).1; have hsz : zs.length < 4611686018427387904 := by omega
  have cS := hs1 gb 0 cap zs W hH hgl hsz
  gi_wp2_with (gi_at_call 150; refine cS.mono ?_; rintro e w' ⟨rfl, nn, os, rfl⟩)
  go_ret
  exact ⟨_, rfl, Go.ownsRow_sortedI (by simp) hbase hgb r1 r2 r3, hb.grown (Go.grownBy_sortedI _) hb.size (fun j hj => by cases hj; exact hbase)⟩
end Go.Proofs.YtaanjifekgfemaaGreat.J
namespace Go.Proofs.YtaanjifekgfemaaGreat.Cl
open Tryz
open Go.RowKit Go.Shelf Go.Sort Go.Proofs.YtaanjifekgfemaaGreat.K Go.Proofs.YtaanjifekgfemaaGreat.W
theorem St.below_new {w0 w w' : World} {F0 : List Nat} {L G : List Res} {r : Res} (h : St w0 F0 w L G) (hb : Below w.heap.size w w') (hr : r.holds w') (hf : ∀ b ∈ r.fp, w.heap.size ≤ b ∧ b < w'.heap.size) (hn : r.fp.Nodup) : St w0 F0 w' (r :: L) G := by
 refine St.step (L1 := []) (L2 := [r]) (L := L) h hb.os hb.tape hb.output hb.size (fun b hb' _ => hb.block b hb') ?_ ?_ ?_
 ·intro b hb'; simp only [Ji, Bbz, List.append_nil] at hb'; exact .inr (hf b hb')
 ·simpa using hn
 ·intro x hx; rw [List.mem_singleton] at hx; subst hx; exact hr
theorem St.newRow {w0 w w' : World} {F0 : List Nat} {L G : List Res} {v : Value} {e : TypeId} {size n : Nat} {xs : List Value} (h : St w0 F0 w L G) (hb : Below w.heap.size w w') (hr : w'.ownsRow w.heap.size e size v n xs) : St w0 F0 w' (Af v e size n xs :: L) G := by
 refine St.below_new h hb ?_ ?_ ?_
 ·refine ⟨hr.1, ?_⟩; rcases hr.2 with h | ⟨g, cap, cur, h1, h2, h3⟩
  ·exact .inl h
  ·exact .inr ⟨g, cap, cur, h1, Nat.zero_le _, h3⟩
 ·intro b hb'; rcases hr.2 with ⟨rfl, _⟩ | ⟨g, cap, cur, rfl, h2, h3, _⟩
  ·cases hb'
  ·obtain rfl : b = g := by simpa [Ch] using hb'
   exact ⟨h2, (Array.getElem?_eq_some_iff.1 h3).1⟩
 ·rcases hr.2 with ⟨rfl, _⟩ | ⟨g, cap, cur, rfl, _⟩ <;> simp [Ch]
theorem Aex (l : List Int) (hl : l.length ≤ 1000000000) (Bs : Nat) (A : Option Addr) (cap : Nat) (w0 w : World) (F0 : List Nat) (L G : List Res) (I : St w0 F0 w (Aa Bs [.slice A l.length cap] 24 :: L) G) (hr : Af (.slice A l.length cap) 3 1 l.length (ivs l) ∈ L) :
  Calls Tryz.prog 146 #[.func (.func 151) #[] #[.pointer (some ⟨Bs, 0, none⟩)]] w fun e w' => ∃ A' c', e = .returned (.slice A' l.length c') ∧ St w0 F0 w' (Af (.slice A' l.length c') 3 1 l.length (ivs (l.mergeSort fun x y => decide (x ≤ y))) :: Aa Bs [.slice A l.length cap] 24 :: L) G := by
 have hcR := I.res _ (List.Mem.head _); have hc : w.cell? ⟨Bs, 0, none⟩ = some (.slice A l.length cap) := Fg hcR 0; have hlt := An2 hcR; have hrow : w.ownsRow 0 3 1 (.slice A l.length cap) l.length (ivs l) := I.res _ (List.mem_cons_of_mem _ hr)
 have hI : J.Ints w.heap.size w (.slice A l.length cap) l := by
  rcases hrow.2 with ⟨h1, h2⟩ | ⟨g, cap', cur, h1, h2, h3, h4⟩
  ·exact .inl ⟨h1, List.eq_nil_of_length_eq_zero h2⟩
  ·injection h1 with h1 h5 h6; subst h1; subst h6; refine .inr ⟨g, 0, cap, O, (Array.getElem?_eq_some_iff.1 h3).1, fun j hj => ?_⟩; rw [Nat.zero_add, World.ownsRow.cellAt hrow j (by omega)]; simp [ivs, hj, W.i64]
 refine (callsIn_wide.1 (J.sorted_in Fence.wide 5 trivial trivial trivial trivial trivial O (fun blk off cap ss W h1 h2 h3 => callsIn_wide.2 (Tryz.slices_Sort_int blk off cap ss W h1 h2 h3)) (fun W => callsIn_wide.2 (Tryz.slices_Sort_int_none none 0 W)) (by omega) Bs _ l hl w hlt hc hI)).mono ?_; rintro e w' ⟨v, rfl, hrow', hb⟩; have h2 := St.newRow I hb hrow'; obtain ⟨A', c', rfl, _⟩ := C5 (h2.res _ (List.Mem.head _)); exact ⟨A', c', O, h2⟩
theorem A60 (l : List Int) (n : Nat) (hn : l.length = n) (hl : n ≤ 1000000000) (A : Option Addr) (cap : Nat) (w0 w : World) (F0 : List Nat) (L G : List Res) (I : St w0 F0 w (Af (.slice A n cap) 3 1 n (ivs l) :: L) G) :
  Calls Tryz.prog 150 #[.slice A n cap] w fun e w' => e = .returned (.tuple #[]) ∧ St w0 F0 w' L G := by
 subst hn; have hrow : w.ownsRow 0 3 1 (.slice A l.length cap) l.length (ivs l) := I.res _ (List.Mem.head _); rcases hrow.2 with ⟨h1, h2⟩ | ⟨g, cap', cur, h1, h2, h3, r1, r2, r3, r4⟩
 ·rw [h2]; refine (Tryz.slices_Sort_int_none A cap w).mono ?_; rintro e w' ⟨rfl, rfl⟩; exact ⟨O, I.drop⟩
 ·injection h1 with h1 h5 h6; subst h1; subst h6; have hgl : g < w.heap.size := (Array.getElem?_eq_some_iff.1 h3).1; have hH : Holds (Value.int .i64) w g 0 l.toArray := Go.holds_of_blockI h3 (by have := r4; rw [Nat.mul_one] at this; exact this); refine (Tryz.slices_Sort_int g 0 cap l w hH hgl (by omega)).mono ?_; rintro e w' ⟨rfl, k, os, rfl⟩; refine ⟨O, ?_⟩; have hgr := Go.grownBy_sortedI (w := w) (g := g) (n := k) (os := os) (l.mergeSort fun x y => decide (x ≤ y)).toArray; have := St.step (L1 := [Af (.slice (some ⟨g, 0, none⟩) l.length cap) 3 1 l.length (ivs l)]) (L2 := []) (L := L) I hgr.os hgr.tape hgr.output hgr.size (fun b hb hbn => hgr.block b hb (fun e => hbn (by injection e with e; subst e; simp [Ch]))) (by simp) (by simp) (by simp); exact this
end Go.Proofs.YtaanjifekgfemaaGreat.Cl
end
namespace Go.Proofs.YtaanjifekgfemaaGreat.Cl
section
open Tryz Go.RowKit YtaanjifekgfemaaGreat.K YtaanjifekgfemaaGreat.W
def srt (l : List Int) : List Int := l.mergeSort fun x y => decide (x ≤ y)
theorem Mk (l : List Int) : (srt l).length = l.length := List.length_mergeSort ..
def Bx (k : Int) (l : List Int) : Prop := 0 ≤ k ∧ k < l.length
instance (k : Int) (l : List Int) : Decidable (Bx k l) := by unfold Bx; infer_instance
def Dt (k : Int) (l : List Int) : Int := if Bx k l then (srt l).getD k.toNat 0 else 0
def K2 (k : Int) (l : List Int) : Int := if Bx k l then Dt (l.length - 1 - k) l else 0
def Dv (l : List Sp) : List Int := l.map (·.lo)
def D8 (l : List Sp) : List Int := l.map (·.hi)
def spC (s : Sp) : List Value := [.int .i64 s.lo, .int .i64 s.hi]
theorem Wx (s : Sp) : (spC s).length = 2 := rfl
def Ja (f : Int) (n : Nat) : Prop := ¬ (f < 0 ∨ (n : Int) ≤ f ∨ (n : Int) - f ≤ f)
instance (f : Int) (n : Nat) : Decidable (Ja f n) := by unfold Ja; infer_instance
def Fc (f : Int) (l : List Sp) : Prop := Ja f l.length ∧ K2 f (Dv l) ≤ Dt f (D8 l)
instance (f : Int) (l : List Sp) : Decidable (Fc f l) := by unfold Fc; infer_instance
def Db (f : Int) (l : List Sp) : Sp := if Fc f l then Sp.of (K2 f (Dv l)) (Dt f (D8 l)) else ⟨0, 0⟩
def Gl (f : Int) (l : List Int) : Int := if Bx f l then Dk (Dt f l) else 1073741824
theorem Ya (l : List Int) (k : Nat) (h : k < l.length) : ivs (l.take k) ++ [.int .i64 l[k]] = ivs (l.take (k + 1)) := by
 rw [List.take_succ_eq_append_getElem h]; unfold ivs; rw [List.map_append]; rfl
theorem Me (l : List Sp) (k : Nat) (h : k < l.length) : ivs ((Dv l).take k) ++ [.int .i64 l[k].lo] = ivs ((Dv l).take (k + 1)) := by
 have := Ya (Dv l) k (by simpa [Dv] using h); rw [← this]; simp [Dv]
theorem Mc (l : List Sp) (k : Nat) (h : k < l.length) : ivs ((D8 l).take k) ++ [.int .i64 l[k].hi] = ivs ((D8 l).take (k + 1)) := by
 have := Ya (D8 l) k (by simpa [D8] using h); rw [← this]; simp [D8]
end
end Go.Proofs.YtaanjifekgfemaaGreat.Cl
namespace Go.Proofs.YtaanjifekgfemaaGreat.K
section
open Tryz Go.RowKit
section
variable {P : Program} {n : Fr} {c : Code} {Q : Ez} {ρ : Env} {w0 w : World} {F0 : List Nat} {L G : List Res} {S : World → Prop} {ty t t' : TypeId} {x y : Operand}
theorem X.appG (I : St w0 F0 w L G) (j : Nat) {e : TypeId} (ht : P.underlying t = some (.slice e)) {z : Value} {size bytes : Nat} (hinfo : (P.info? e).map (fun i => (i.zero, i.size, i.bytes)) = some (some z, size, bytes)) (hzs : z.cells.size = size) (hsz : Nat.blt 0 size = true)
  {A : Option Addr} {m cp : Nat} {xs : List Value} (hx : ev ρ x = .slice A m cp) (hL : L[j]? = some (Af (.slice A m cp) e size m xs)) {u : Value} {m' : Nat} {news : List Value} (hy : ev ρ y = u) (hr : Rds L G u m' news) (hl : news.length = m' * size) (h1 : ∀ u ∈ news, u.oneCell' = true)
  (h63 : m + m' ≤ maxLen) (hbytes : (m + m') * bytes ≤ 140737488355328) {K : Value → World → Prop} (k : ∀ A' c' w', St w0 F0 w' (L.set j (Af (.slice A' (m + m') c') e size (m + m') (xs ++ news))) G → K (.slice A' (m + m') c') w') :
  X P ρ w (.call { callee := .builtin .append, args := #[x, y], argTypes := #[t, t] }) ty K := by
 refine X.append I j ht hinfo hzs hsz hx hL hy hr hl h1 h63 hbytes fun v' w' h => ?_
 have hj : j < L.length := by
  rcases Nat.lt_or_ge j L.length with h | h
  ·exact h
  ·rw [List.getElem?_eq_none h] at hL; cases hL
 have hm : Af v' e size (m + m') (xs ++ news) ∈ L.set j (Af v' e size (m + m') (xs ++ news)) := List.mem_set hj _; obtain ⟨A', c', rfl, _⟩ := C5 (h.res _ hm); exact k A' c' w' h
theorem X.app (I : St w0 F0 w L G) (j i : Nat) {e : TypeId} (ht : P.underlying t = some (.slice e)) {z : Value} {size bytes : Nat} (hinfo : (P.info? e).map (fun i => (i.zero, i.size, i.bytes)) = some (some z, size, bytes)) (hzs : z.cells.size = size) (hsz : Nat.blt 0 size = true)
  {A : Option Addr} {m cp : Nat} {xs : List Value} (hx : ev ρ x = .slice A m cp) (hL : L[j]? = some (Af (.slice A m cp) e size m xs)) {b : Nat} {e' : TypeId} {news : List Value} (hy : ev ρ y = .slice (some ⟨b, 0, none⟩) 1 1) (hi : L[i]? = some (Aa b news e')) (hl : news.length = 1 * size) (h1 : (news.all fun u => u.oneCell') = true)
  (h63 : m + 1 ≤ maxLen) (hbytes : (m + 1) * bytes ≤ 140737488355328) {K : Value → World → Prop} (k : ∀ A' c' w', St w0 F0 w' (L.set j (Af (.slice A' (m + 1) c') e size (m + 1) (xs ++ news))) G → K (.slice A' (m + 1) c') w') :
  X P ρ w (.call { callee := .builtin .append, args := #[x, y], argTypes := #[t, t] }) ty K :=
 X.appG I j ht hinfo hzs hsz hx hL hy (Rds.ofCells i hi 1 1) hl (fun u hu => List.all_eq_true.1 h1 u hu) h63 hbytes k
theorem Drw.zyb {T : List Nat} {i d : Nat} {r : Tr} {op : Op} {ps : String} {af : Array Edge} {gd : Option (Nat × Bool)} {p : Bool} {S' : World → Prop} (ho : Dm c i = some ⟨some d, op, ty, ps, af, gd⟩) (hw : D6 c ρ gd = true) (hd : okD n (some d) = true) (hT : T.contains i = true)
  (hS : S' w) (hy : Y P S' ρ op ty (.bool p)) (k : ∀ b, b = p → Drw P n c Q S T r (upd ρ d (.bool b)) w) : Drw P n c Q S T (.op i 1 r) ρ w := Drw.zy ho hw hd hT hS hy (k p rfl)
theorem Rds.hd {v : Value} {m : Nat} {xs : List Value} (h : Rds [] G v m xs) : Rds L G v m xs := h.mono (fun r hr => by cases hr) (fun r hr => hr)
theorem Rds.moreG {v : Value} {m : Nat} {xs : List Value} {G' : List Res} (h : Rds L G v m xs) (hG : ∀ r ∈ G, r ∈ G') : Rds L G' v m xs := h.mono (fun r hr => .inl hr) hG
end
end
end Go.Proofs.YtaanjifekgfemaaGreat.K
namespace Go.Proofs.YtaanjifekgfemaaGreat.Cl
section
open Tryz Go.RowKit YtaanjifekgfemaaGreat.K YtaanjifekgfemaaGreat.W
attribute [local irreducible] Bg Ak Bb sub neg mag Da mul Dy
theorem Ah3 : CF 121 := fun _ _ => by simp [go_sem]
theorem Bo2 : CF 130 := fun _ _ => by simp [go_sem]
theorem Bo8 : CF 140 := fun _ _ => by simp [go_sem]
theorem Avx : CF 141 := fun _ _ => by simp [go_sem]
theorem Box : CF 146 := fun _ _ => by simp [go_sem]
theorem Boz : CF 147 := fun _ _ => by simp [go_sem]
theorem Jl : (Tryz.prog.info? 3).map (fun i => (i.zero, i.size, i.bytes)) = some (some (Value.int .i64 0), 1, 8) := by kernel_rfl
theorem Ag4 (A : Option Addr) (n c : Nat) (w0 w : World) (F0 : List Nat) (L G : List Res) (I : St w0 F0 w L G) :
  Calls Tryz.prog 147 #[.slice A n c] w fun e w' => ∃ p, e = .returned (.func (.func 151) #[] #[.pointer (some ⟨p, 0, none⟩)]) ∧ St w0 F0 w' (Aa p [.slice A n c] 24 :: L) G := by
 refine W.func func147 O ntmps147 O<|Wh O<|Ow O (X.box1 I (.slice _ _ _) O O fun p1 w1 I => I.y O (Y.assignV O)<|Ds O O<|I.y O (Y.makeFunc O O)<|I.y O (Y.assignV O)<|Od O<|We O<|⟨_, Ac.one results147 O, ?_⟩); exact ⟨_, O, I⟩
theorem Og (k : Int) (l : List Int) (n : Nat) (hn : l.length = n) (hl : n ≤ 1000000) (A : Option Addr) (cap : Nat) (w0 w : World) (F0 : List Nat) (L G : List Res) (I : St w0 F0 w L G) (hr : Af (.slice A n cap) 3 1 n (ivs l) ∈ L) :
  Calls Tryz.prog 141 #[.int .i64 k, .slice A n cap] w fun e w' => ∃ b, e = .returned (.tuple #[.int .i64 (Dt k l), .bool b]) ∧ b = decide (Bx k l) ∧ St w0 F0 w' L G := by
 subst hn; refine W.func func141 O ntmps141 O<|Wh O<|I.a O O<|I.g O O<|Od O<|Wq O<|Wh O<|I.u O O<|I.v O O O (fun b8 hb8 => I.b O O<|?_); cases b8
 ·replace hb8 := dF hb8; refine I.u O O<|I.s O O<|I.y O (Y.lenS underlying24 O)<|I.W O O O (fun b13 hb13 => I.k O O O<|Od O<|?_); cases b13
  ·replace hb13 := dF hb13; refine Wu O O<|Wk O<|Wh O<|I.s O O<|Oc O Boz O ?_; refine Ab (Ag4 A l.length cap _ _ _ _ _ I) O ?_; clear I; rintro e w16 ⟨p16, rfl, I⟩; refine ⟨_, O, ?_⟩; refine Oc O Box O ?_; refine Ab (Aex l (by omega) p16 A cap _ _ _ _ _ I hr) O ?_; clear I; rintro e w17 ⟨A17, c17, rfl, I⟩; refine ⟨_, O, ?_⟩; refine I.y O (Y.assignS O)<|Od O<|Wq O<|?_; obtain ⟨kn, rfl⟩ : ∃ n : Nat, k = (n : Int) := ⟨k.toNat, by omega⟩; have hk1 : kn < (srt l).length := by rw [Mk]; omega
   have hok : Bx (kn : Int) l := by unfold Bx; omega
   refine Wr rfl<|I.s rfl rfl<|I.u rfl rfl<|I.y rfl (Y.indexAddr underlying24 sizeOf3 rfl rfl ((Rds.sl (Rds.rowL 0 (by rfl)) I).ne (by show 0 < (ivs (srt l)).length; simp [ivs]; omega)) (by omega))<|?_; refine I.y O (Y.loadSl isAgg3 O (Rds.rowL 0 O) (Ef (l := srt l) hk1))<|I.a O O<|I.g O O<|Od O<|We O<|⟨_, Ac.two results141 O O, ?_⟩; have hq : (srt l).getD kn 0 = Dt (kn : Int) l := (if_pos hok).symm; exact ⟨true, by rw [← hq]; first | done | rfl, (decide_eq_true hok).symm, (I.dr 2)⟩
  ·replace hb13 := dT hb13; refine Wt O O<|Wh O<|I.a O O<|I.g O O<|Od O<|We O<|⟨_, Ac.two results141 O O, ?_⟩; have hok : ¬ Bx k l := by unfold Bx; omega
   have hq : (0 : Int) = Dt k l := (if_neg hok).symm; exact ⟨false, by rw [← hq]; first | done | rfl, (decide_eq_false hok).symm, I⟩
 ·replace hb8 := dT hb8; refine On O<|On O<|On O<|On O<|I.k O O O<|Od O<|Wt O O<|Wh O<|I.a O O<|I.g O O<|Od O<|We O<|⟨_, Ac.two results141 O O, ?_⟩; have hok : ¬ Bx k l := by unfold Bx; omega
  have hq : (0 : Int) = Dt k l := (if_neg hok).symm; exact ⟨false, by rw [← hq]; first | done | rfl, (decide_eq_false hok).symm, I⟩
theorem Aq8 (k : Int) (l : List Int) (n : Nat) (hn : l.length = n) (hl : n ≤ 1000000) (A : Option Addr) (cap : Nat) (w0 w : World) (F0 : List Nat) (L G : List Res) (I : St w0 F0 w L G) (hr : Af (.slice A n cap) 3 1 n (ivs l) ∈ L) :
  Calls Tryz.prog 140 #[.int .i64 k, .slice A n cap] w fun e w' => ∃ b, e = .returned (.tuple #[.int .i64 (K2 k l), .bool b]) ∧ b = decide (Bx k l) ∧ St w0 F0 w' L G := by
 subst hn; refine W.func func140 O ntmps140 O<|Wh O<|I.a O O<|I.g O O<|Od O<|Wq O<|Wh O<|I.u O O<|I.v O O O (fun b7 hb7 => I.b O O<|?_); cases b7
 ·replace hb7 := dF hb7; refine I.u O O<|I.s O O<|I.y O (Y.lenS underlying24 O)<|I.W O O O (fun b12 hb12 => I.k O O O<|Od O<|?_); cases b12
  ·replace hb12 := dF hb12; refine Wu O O<|Wk O<|Wh O<|I.s O O<|I.y O (Y.lenS underlying24 O)<|I.y O (Y.subI O O (by omega))<|I.u O O<|I.y O (Y.subI O O (by omega))<|I.s O O<|Oc O Avx O ?_; refine Ab (Og _ l _ O hl A cap _ _ _ _ _ I hr) O ?_; clear I; rintro e w20 ⟨b20, rfl, hb20, I⟩; refine ⟨_, O, ?_⟩; refine I.e O O O<|I.e O O O<|I.a O O<|I.g O O<|Od O<|We O<|⟨_, Ac.two results140 O O, ?_⟩; have hok : Bx k l := by unfold Bx; omega
   have hok2 : Bx (l.length - 1 - k) l := by unfold Bx; omega
   have hq : Dt (l.length - 1 - k) l = K2 k l := (if_pos hok).symm; exact ⟨b20, by rw [← hq]; first | done | rfl, by rw [hb20, decide_eq_true hok, decide_eq_true hok2], I⟩
  ·replace hb12 := dT hb12; refine Wt O O<|Wh O<|I.a O O<|I.g O O<|Od O<|We O<|⟨_, Ac.two results140 O O, ?_⟩; have hok : ¬ Bx k l := by unfold Bx; omega
   have hq : (0 : Int) = K2 k l := (if_neg hok).symm; exact ⟨false, by rw [← hq]; first | done | rfl, (decide_eq_false hok).symm, I⟩
 ·replace hb7 := dT hb7; refine On O<|On O<|On O<|On O<|I.k O O O<|Od O<|Wt O O<|Wh O<|I.a O O<|I.g O O<|Od O<|We O<|⟨_, Ac.two results140 O O, ?_⟩; have hok : ¬ Bx k l := by unfold Bx; omega
  have hq : (0 : Int) = K2 k l := (if_neg hok).symm; exact ⟨false, by rw [← hq]; first | done | rfl, (decide_eq_false hok).symm, I⟩
theorem Ay3 (f : Int) (l : List Sp) (hl : l.length ≤ 1000000) (A : Option Addr) (cap : Nat) (w0 w : World) (F0 : List Nat) (L G : List Res) (I : St w0 F0 w L G) (hr : Rds L G (.slice A l.length cap) l.length (Ae spC l)) :
  Calls Tryz.prog 130 #[.int .i64 f, .slice A l.length cap] w fun e w' => ∃ b, e = .returned (.tuple #[.agg #[.int .i64 (Db f l).lo, .int .i64 (Db f l).hi], .bool b]) ∧ b = decide (Fc f l) ∧ St w0 F0 w' L G := by
 refine W.func func130 O ntmps130 O<|Wh O<|Ow O (X.allocA I zeroValue53 fun p4 w4 I => I.g O O<|Od O<|Wq O<|Wh O<|I.u O O<|I.v O O O (fun b15 hb15 => I.b O O<|?_)); cases b15
 ·replace hb15 := dF hb15; refine I.u O O<|I.s O O<|I.y O (Y.lenS underlying228 O)<|I.W O O O (fun b20 hb20 => I.k O O O<|I.b O O<|?_); cases b20
  ·replace hb20 := dF hb20; refine I.s O O<|I.y O (Y.lenS underlying228 O)<|I.u O O<|I.y O (Y.subI O O (by omega))<|I.u O O<|I.X O O O (fun b28 hb28 => I.k O O O<|Od O<|?_); cases b28
   ·replace hb28 := dF hb28; refine Wu O O<|Wk O<|Wh O<|I.y O (Y.assignS O)<|I.y O (Y.assignS O)<|Od O<|Wq O<|Wh O<|?_; replace I := (I.nilRow 3 1).nilRow 3 1; refine I.s O O<|I.y O (Y.lenS underlying228 O)<|I.u O O<|Od O<|Wb O<|?_; refine W.loop (γ := Nat × (Option Addr × Nat) × (Option Addr × Nat)) [(0, .int _ _), (4, .pointer _), (31, .slice _ _ _), (32, .int _ _)] (fun x => [(6, .slice x.2.1.1 x.1 x.2.1.2), (7, .slice x.2.2.1 x.1 x.2.2.2), (33, .int .i64 (x.1 : Int))]) (fun x w => x.1 ≤ l.length ∧ St w0 F0 w (Af (.slice x.2.1.1 x.1 x.2.1.2) 3 1 x.1 (ivs ((Dv l).take x.1)) :: Af (.slice x.2.2.1 x.1 x.2.2.2) 3 1 x.1 (ivs ((D8 l).take x.1)) :: Aa p4 [.int .i64 0, .int .i64 0] 53 :: L) G) (fun x => l.length - x.1) ((0, (none, 0), (none, 0))) O ⟨O, O, O, O, trivial⟩ ?_ ?_ ?_
    ·exact ⟨O, O, O, trivial⟩
    ·exact ⟨by omega, I⟩
    ·clear I; rintro ⟨k, ⟨A6, c6⟩, ⟨A7, c7⟩⟩ j w5 ⟨hk, I⟩; refine Wh O<|I.v O O O (fun b34 hb34 => Od O<|Wq O<|?_); cases b34
     ·replace hb34 := dF hb34; refine Wu O O<|W.exit O<|Wq O<|?_; obtain rfl : k = l.length := by omega
      have e1 : (Dv l).take l.length = Dv l := List.take_of_length_le (by simp [Dv]); have e2 : (D8 l).take l.length = D8 l := List.take_of_length_le (by simp [D8]); rw [e1, e2] at I; refine Wr O<|I.u O O<|I.s O O<|Oc O Bo8 O ?_; refine Ab (Aq8 f (Dv l) l.length (by simp [Dv]) hl A6 c6 _ _ _ _ _ I (.head _)) O ?_; clear I; rintro e w51 ⟨b51, rfl, hb51, I⟩; refine ⟨_, O, ?_⟩; refine I.y O (Y.moveU O)<|I.e O O O<|I.e O O O<|I.a O O<|I.g O O<|Ds O O<|I.u O O<|I.s O O<|Oc O Avx O ?_; refine Ab (Og f (D8 l) l.length (by simp [D8]) hl A7 c7 _ _ _ _ _ I (.tail _ (.head _))) O ?_; clear I; rintro e w57 ⟨b57, rfl, hb57, I⟩; refine ⟨_, O, ?_⟩; refine I.y O (Y.moveU O)<|I.e O O O<|I.e O O O<|I.a O O<|I.g O O<|Od O<|Wq O<|Wh O<|I.u O O<|I.u O O<|I.V O O O (fun b62 hb62 => Od O<|?_); cases b62
      ·replace hb62 := dF hb62; refine Wu O O<|Wk O<|Wh O<|I.u O O<|I.u O O<|Ow O (X.ret Br7 (A1q _ _ _ _ _ _ _ I ) O fun _ I => Ow O (X.storeS I 2 sizeOf53 O O O O O (lZ O) O O fun _ I => I.g O O<|Od O<|We O<|⟨_, Ac.cellTmp results130 O (Bd isAgg53 sizeOf53 2 I O O) O, ?_⟩)); have hok : Fc f l := ⟨by unfold Ja; omega, by omega⟩; have hq : Sp.of (K2 f (Dv l)) (Dt f (D8 l)) = Db f l := (if_pos hok).symm; exact ⟨true, by rw [← hq]; first | done | rfl, (decide_eq_true hok).symm, (I.dr 3)⟩
      ·replace hb62 := dT hb62; refine Wt O O<|Wh O<|I.y O (Mr O)<|Ow O (X.storeS I 2 sizeOf53 O O O O O (lZ O) O O fun _ I => I.g O O<|Od O<|We O<|⟨_, Ac.cellTmp results130 O (Bd isAgg53 sizeOf53 2 I O O) O, ?_⟩); have hok : ¬ Fc f l := fun h => absurd h.2 (by omega); have hq : (⟨0, 0⟩ : Sp) = Db f l := (if_neg hok).symm; exact ⟨false, by rw [← hq]; first | done | rfl, (decide_eq_false hok).symm, (I.dr 3)⟩
     ·replace hb34 := dT hb34; refine Wt O O<|Wk O<|Wq O<|Wb O<|Wq O<|?_; have hk1 : k < l.length := by omega
      refine Wr O<|I.y O (Y.indexAddr underlying228 sizeOf53 O O ((Rds.sl (((hr.cons _).cons _).cons _) I).ne (Bi Wx (by decide) (by omega))) (by omega))<|?_; refine I.y O (Y.loadSlA isAgg53 sizeOf53 O (((hr.cons _).cons _).cons _) (Bo Wx l k hk1) (Wx _))<|Ow O (X.allocA I zeroValue53 fun p9 w9 I => Ow O (X.storeS I 0 sizeOf53 O O O O O (lZ O) O O fun _ I => Od O<|?_)); replace I := I.up_2; replace I := I.up_2; refine W.cut [(0, .int _ _), (4, .pointer _), (31, .slice _ _ _), (32, .int _ _), (33, .int _ _)] (fun x : (Option Addr × Nat) × (Option Addr × Nat) => [(6, .slice x.1.1 (k + 1) x.1.2), (7, .slice x.2.1 (k + 1) x.2.2)]) (fun x w => St w0 F0 w (Af (.slice x.1.1 (k + 1) x.1.2) 3 1 (k + 1) (ivs ((Dv l).take (k + 1))) :: Af (.slice x.2.1 (k + 1) x.2.2) 3 1 (k + 1) (ivs ((D8 l).take (k + 1))) :: Aa p4 [.int .i64 0, .int .i64 0] 53 :: L) G) ⟨O, O, O, O, O, trivial⟩ ?_ ?_
      rotate_left
      ·clear I; rintro ⟨⟨A8, c8⟩, ⟨A9, c9⟩⟩ j w8 I; refine Wr O<|I.j O O O (by omega)<|I.u O O<|Od O<|?_; exact ⟨(k + 1, (A8, c8), (A9, c9)), ⟨O, O, O, trivial⟩, ⟨O, O, O, O, trivial⟩, ⟨by omega, I⟩, by dsimp only at *; omega⟩
      refine I.dw 2 [] (T0 [0,1,2,5,6,7] (.alt 3 (.alt 4 (T1 [8,9] (T0 [10,11] .nil)) (T1 [8,4,9] (T0 [10,11] .nil))) (T1 [8,3,4,9] (T0 [10,11] .nil)))) O (by kernel_rfl) O (by kernel_rfl) fun _ I => ?_; refine Dq O (I.cx 2) (Y.moveS O)<|Dq O (I.cx 2) (Y.fieldAddr Fm O)<|Dq O (I.cx 2) (Y.load 0 isAgg3 O O O)<|Dq O (I.cx 2) (Y.moveS O)<|Dq O (I.cx 2) (Y.fieldAddr Fb O)<|Dq O (I.cx 2) (Y.load 0 isAgg3 O O O)<|?_; refine Drw.alts (Alts.more ?_ (Alts.one ?_))
      ·refine One.ww O (Xl I (by rfl) (by rfl) (by rfl) [.int _ _] (by rfl) (by rfl) fun p40 w40 I => ⟨(I.cx 3), ?_⟩); refine Drw.alts (Alts.more ?_ (Alts.one ?_))
       ·refine One.ww rfl (X.app I 1 0 underlying24 Jl rfl rfl rfl rfl rfl rfl rfl rfl (by unfold maxLen; omega) (by omega) fun A41 c41 w41 I => ⟨(I.cx 3), ?_⟩); refine Dw O (Xl I (by rfl) (by rfl) (by rfl) [.int _ _] (by rfl) (by rfl) fun p45 w45 I => ⟨(I.cx 4), ?_⟩); refine Dw rfl (X.app I 3 0 underlying24 Jl rfl rfl rfl rfl rfl rfl rfl rfl (by unfold maxLen; omega) (by omega) fun A46 c46 w46 I => ⟨(I.cx 4), ?_⟩); refine Dq O (I.cx 4) (Y.assignS O)<|Dq O (I.cx 4) (Y.assignS O)<|Dd<|⟨((_, _), (_, _)), ⟨O, O, trivial⟩, ⟨O, O, O, O, O, trivial⟩, ?_⟩; rw [← Me l k hk1, ← Mc l k hk1]; exact (I.sub (.cons _ (.cons _ (.cons_cons _ (.cons_cons _ (.cons _ (.cons_cons _ (.refl _))))))))
       ·refine One.ww O (Xl I (by rfl) (by rfl) (by rfl) [.int _ _] (by rfl) (by rfl) fun p45 w45 I => ⟨(I.cx 4), ?_⟩); refine Dw rfl (X.app I 2 1 underlying24 Jl rfl rfl rfl rfl rfl rfl rfl rfl (by unfold maxLen; omega) (by omega) fun A41 c41 w41 I => ⟨(I.cx 4), ?_⟩); refine Dw rfl (X.app I 3 0 underlying24 Jl rfl rfl rfl rfl rfl rfl rfl rfl (by unfold maxLen; omega) (by omega) fun A46 c46 w46 I => ⟨(I.cx 4), ?_⟩); refine Dq O (I.cx 4) (Y.assignS O)<|Dq O (I.cx 4) (Y.assignS O)<|Dd<|⟨((_, _), (_, _)), ⟨O, O, trivial⟩, ⟨O, O, O, O, O, trivial⟩, ?_⟩; rw [← Me l k hk1, ← Mc l k hk1]; exact (I.sub (.cons _ (.cons _ (.cons_cons _ (.cons_cons _ (.cons _ (.cons_cons _ (.refl _))))))))
      ·refine One.ww O (Xl I (by rfl) (by rfl) (by rfl) [.int _ _] (by rfl) (by rfl) fun p45 w45 I => ⟨(I.cx 3), ?_⟩); refine Dw O (Xl I (by rfl) (by rfl) (by rfl) [.int _ _] (by rfl) (by rfl) fun p40 w40 I => ⟨(I.cx 4), ?_⟩); refine Dw rfl (X.app I 2 0 underlying24 Jl rfl rfl rfl rfl rfl rfl rfl rfl (by unfold maxLen; omega) (by omega) fun A41 c41 w41 I => ⟨(I.cx 4), ?_⟩); refine Dw rfl (X.app I 3 1 underlying24 Jl rfl rfl rfl rfl rfl rfl rfl rfl (by unfold maxLen; omega) (by omega) fun A46 c46 w46 I => ⟨(I.cx 4), ?_⟩); refine Dq O (I.cx 4) (Y.assignS O)<|Dq O (I.cx 4) (Y.assignS O)<|Dd<|⟨((_, _), (_, _)), ⟨O, O, trivial⟩, ⟨O, O, O, O, O, trivial⟩, ?_⟩; rw [← Me l k hk1, ← Mc l k hk1]; exact (I.sub (.cons _ (.cons _ (.cons_cons _ (.cons_cons _ (.cons _ (.cons_cons _ (.refl _))))))))
   ·replace hb28 := dT hb28; refine Wt O O<|Wh O<|I.y O (Mr O)<|Ow O (X.storeS I 0 sizeOf53 O O O O O (lZ O) O O fun w2_1 I => I.g O O<|Od O<|We O<|⟨_, Ac.cellTmp results130 O (Bd isAgg53 sizeOf53 0 I O O) O, ?_⟩); have hok : ¬ Fc f l := fun h => absurd h.1 (by unfold Ja; omega); have hq : (⟨0, 0⟩ : Sp) = Db f l := (if_neg hok).symm; exact ⟨false, by rw [← hq]; first | done | rfl, (decide_eq_false hok).symm, (I.dr 1)⟩
  ·replace hb20 := dT hb20; refine On O<|On O<|On O<|On O<|On O<|On O<|I.k O O O<|Od O<|Wt O O<|Wh O<|I.y O (Mr O)<|Ow O (X.storeS I 0 sizeOf53 O O O O O (lZ O) O O fun w2_1 I => I.g O O<|Od O<|We O<|⟨_, Ac.cellTmp results130 O (Bd isAgg53 sizeOf53 0 I O O) O, ?_⟩); have hok : ¬ Fc f l := fun h => absurd h.1 (by unfold Ja; omega); have hq : (⟨0, 0⟩ : Sp) = Db f l := (if_neg hok).symm; exact ⟨false, by rw [← hq]; first | done | rfl, (decide_eq_false hok).symm, (I.dr 1)⟩
 ·replace hb15 := dT hb15; refine On O<|On O<|On O<|On O<|I.k O O O<|I.b O O<|On O<|On O<|On O<|On O<|On O<|On O<|I.k O O O<|Od O<|Wt O O<|Wh O<|I.y O (Mr O)<|Ow O (X.storeS I 0 sizeOf53 O O O O O (lZ O) O O fun w2_1 I => I.g O O<|Od O<|We O<|⟨_, Ac.cellTmp results130 O (Bd isAgg53 sizeOf53 0 I O O) O, ?_⟩); have hok : ¬ Fc f l := fun h => absurd h.1 (by unfold Ja; omega); have hq : (⟨0, 0⟩ : Sp) = Db f l := (if_neg hok).symm; exact ⟨false, by rw [← hq]; first | done | rfl, (decide_eq_false hok).symm, (I.dr 1)⟩
theorem To (p : Par) (l : List Sp) (hl : l.length ≤ 1000000) (A : Option Addr) (cap : Nat) (w0 w : World) (F0 : List Nat) (L G : List Res) (I : St w0 F0 w L G) (hr : Rds L G (.slice A l.length cap) l.length (Ae spC l)) :
  Calls Tryz.prog 122 #[.agg #[.int .i64 p.N, .int .i64 p.F, .int .i64 p.D, .int .i64 p.Beat, .int .i64 p.Rho, .int .i64 p.Delay, .int .i64 p.Jitter, .int .i64 p.Eps, .int .i64 p.Mu, .int .i64 p.Hold, .int .i64 p.Pulse, .int .i64 p.Second], .slice A l.length cap] w fun e w' => ∃ b, e = .returned (.tuple #[.agg #[.int .i64 (Db p.F l).lo, .int .i64 (Db p.F l).hi], .bool b]) ∧ b = decide (Fc p.F l) ∧ St w0 F0 w' L G := by
 refine W.func func122 O ntmps122 O<|Wh O<|Ow O (X.boxA I O fun p2 w2 I => Ow O (X.allocA I zeroValue53 fun p4 w4 I => I.g O O<|Ds O O<|I.f N0 O O<|I.l 1 O O O O<|I.s O O<|Oc O Bo2 O ?_)); refine Ab (Ay3 p.F l hl A cap _ _ _ _ _ I ((hr.cons _).cons _)) O ?_; clear I; rintro e w9 ⟨b9, rfl, hb9, I⟩; refine ⟨_, O, ?_⟩; refine I.e O O O<|I.e O O O<|Ow O (X.storeS I 0 sizeOf53 O O O O O (lZ O) O O fun _ I => I.g O O<|Od O<|We O<|⟨_, Ac.cellTmp results122 O (Bd isAgg53 sizeOf53 0 I O O) O, ?_⟩); exact ⟨b9, O, hb9, (I.dr 2)⟩
theorem Ay7 (p : Par) (l : List Int) (hl : l.length ≤ 1000000) (A : Option Addr) (cap : Nat) (w0 w : World) (F0 : List Nat) (L G : List Res) (I : St w0 F0 w L G) (hr : Af (.slice A l.length cap) 3 1 l.length (ivs l) ∈ L) :
  Calls Tryz.prog 183 #[.agg #[.int .i64 p.N, .int .i64 p.F, .int .i64 p.D, .int .i64 p.Beat, .int .i64 p.Rho, .int .i64 p.Delay, .int .i64 p.Jitter, .int .i64 p.Eps, .int .i64 p.Mu, .int .i64 p.Hold, .int .i64 p.Pulse, .int .i64 p.Second], .slice A l.length cap] w fun e w' => ∃ b, e = .returned (.tuple #[.int .i64 (Gl p.F l), .bool b]) ∧ St w0 F0 w' L G := by
 refine W.func func183 O ntmps183 O<|Wh O<|Ow O (X.boxA I O fun p2 w2 I => I.a O O<|I.g O O<|Ds O O<|I.f N0 O O<|I.l 0 O O O O<|I.s O O<|Oc O Avx O ?_); refine Ab (Og p.F l _ O hl A cap _ _ _ _ _ I (.tail _ hr)) O ?_; clear I; rintro e w12 ⟨b12, rfl, hb12, I⟩; refine ⟨_, O, ?_⟩; refine I.y O (Y.moveU O)<|I.e O O O<|I.e O O O<|I.a O O<|I.g O O<|Od O<|Wq O<|Wh O<|I.b O O<|?_; cases b12
 ·replace hb12 := dF hb12; refine I.q O O<|Od O<|Wt O O<|Wh O<|I.a O O<|I.g O O<|Od O<|We O<|⟨_, Ac.two results183 O O, ?_⟩; have hq : (1073741824 : Int) = Gl p.F l := (if_neg hb12).symm; exact ⟨false, by rw [← hq]; first | done | rfl, (I.dr 1)⟩
 ·replace hb12 := dT hb12; refine I.q O O<|Od O<|Wu O O<|Wk O<|Wh O<|I.u O O<|Ow O (X.ret Ah3 (Jo _ _ _ _ _ _ I ) O fun _ I => I.a O O<|I.g O O<|Od O<|We O<|⟨_, Ac.two results183 O O, ?_⟩); have hq : Dk (Dt p.F l) = Gl p.F l := (if_pos hb12).symm; exact ⟨true, by rw [← hq]; first | done | rfl, (I.dr 1)⟩
end
section
open Tryz Go.RowKit YtaanjifekgfemaaGreat.K YtaanjifekgfemaaGreat.W
structure Hd where
  m : M
  A : Option Addr
  cap : Nat
  age : Int
def Pq (m : M) (A : Option Addr) (cap : Nat) : List Value := [.int .i64 m.kind, .int .i64 m.from_, .int .i64 m.slo, .int .i64 m.shi, .int .i64 m.held, .int .i64 m.hops, .bool m.good, .bool m.ref, .int .i64 m.elo, .int .i64 m.ehi, .int .i64 m.pulse, .int .i64 m.time, .int .i64 m.num, .slice A m.tab.length cap]
def hdC (h : Hd) : List Value := [.int .i64 h.m.kind, .int .i64 h.m.from_, .int .i64 h.m.slo, .int .i64 h.m.shi, .int .i64 h.m.held, .int .i64 h.m.hops, .bool h.m.good, .bool h.m.ref, .int .i64 h.m.elo, .int .i64 h.m.ehi, .int .i64 h.m.pulse, .int .i64 h.m.time, .int .i64 h.m.num, .slice h.A h.m.tab.length h.cap, .int .i64 h.age]
theorem B5 (h : Hd) : (hdC h).length = 15 := rfl
def tk (p : Par) (me : Int) (out : List Hd) (h : Hd) : Prop := h.m.kind = 1 ∧ 0 ≤ h.m.from_ ∧ h.m.from_ < min p.N 16 ∧ h.m.from_ ≠ me ∧ ¬ ∃ x ∈ out, decide (x.m.from_ = h.m.from_) = true
instance (p : Par) (me : Int) (out : List Hd) (h : Hd) : Decidable (tk p me out h) := by unfold tk; infer_instance
def Gy (p : Par) (me : Int) (out : List Hd) (h : Hd) : List Hd := if tk p me out h then out ++ [h] else out
def Al (p : Par) (me : Int) (l : List Hd) : List Hd := l.foldl (Gy p me) []
theorem U0 (p : Par) (me : Int) (l : List Hd) (k : Nat) (h : k < l.length) : Al p me (l.take (k + 1)) = Gy p me (Al p me (l.take k)) l[k] := by
 unfold Al; rw [List.take_succ_eq_append_getElem h, List.foldl_append]; rfl
def Asc (l : List Hd) : Prop := l.Pairwise fun a b => a.m.from_ ≤ b.m.from_
theorem Asc.sublist {l l' : List Hd} (h : Asc l) (hs : l'.Sublist l) : Asc l' := List.Pairwise.sublist hs h
theorem Et (p : Par) (me : Int) (l : List Hd) : (Al p me l).Sublist l := by
  unfold Al
  have : ∀ (l pre out : List Hd), out.Sublist pre → (l.foldl (Gy p me) out).Sublist (pre ++ l) := by
    intro l
    induction l with
    | nil => intro pre out h; simpa using h
    | cons x l ih =>
      intro pre out h
      have h2 : (Gy p me out x).Sublist (pre ++ [x]) := by
        unfold Gy; split
        · exact List.Sublist.append h (.refl _)
        · exact h.trans (List.sublist_append_left _ _)
      have := ih (pre ++ [x]) _ h2; simpa using this
  simpa using this l [] [] (.refl _)
theorem Sw {p : Par} {me : Int} {l : List Hd} {h : Hd} (hm : h ∈ Al p me l) : h ∈ l ∧ h.m.kind = 1 ∧ 0 ≤ h.m.from_ ∧ h.m.from_ < min p.N 16 ∧ h.m.from_ ≠ me := by
  refine ⟨(Et p me l).mem hm, ?_⟩; unfold Al at hm
  have : ∀ (l out : List Hd), (∀ h ∈ out, h.m.kind = 1 ∧ 0 ≤ h.m.from_ ∧ h.m.from_ < min p.N 16 ∧ h.m.from_ ≠ me) → ∀ h ∈ l.foldl (Gy p me) out, h.m.kind = 1 ∧ 0 ≤ h.m.from_ ∧ h.m.from_ < min p.N 16 ∧ h.m.from_ ≠ me := by
    intro l
    induction l with
    | nil => intro out h; exact h
    | cons x l ih =>
      intro out h; refine ih _ ?_; unfold Gy; split
      · rename_i ht; intro y hy; rcases List.mem_append.1 hy with hy | hy
        · exact h y hy
        · rw [List.mem_singleton] at hy; subst hy; exact ⟨ht.1, ht.2.1, ht.2.2.1, ht.2.2.2.1⟩
      · exact h
  exact this l [] (by simp) h hm
theorem Afx (p : Par) (me : Int) (l : List Hd) : (Al p me l).Pairwise fun a b => a.m.from_ ≠ b.m.from_ := by
  unfold Al
  have : ∀ (l out : List Hd), out.Pairwise (fun a b => a.m.from_ ≠ b.m.from_) → (l.foldl (Gy p me) out).Pairwise fun a b => a.m.from_ ≠ b.m.from_ := by
    intro l
    induction l with
    | nil => intro out h; exact h
    | cons x l ih =>
      intro out h; refine ih _ ?_; unfold Gy; split
      · rename_i ht; rw [List.pairwise_append]; refine ⟨h, List.pairwise_singleton _ _, fun a ha b hb => ?_⟩; rw [List.mem_singleton] at hb; subst hb; exact fun e => ht.2.2.2.2 ⟨a, ha, decide_eq_true e⟩
      · exact h
  exact this l [] .nil
theorem I2 {p : Par} {me : Int} {l : List Hd} (h : Asc l) : (Al p me l).length ≤ 16 := by
  have h1 := h.sublist (Et p me l); have h2 := Afx p me l; have h3 : ∀ x ∈ Al p me l, 0 ≤ x.m.from_ ∧ x.m.from_ < 16 := fun x hx => by have := Sw hx; omega
  have key : ∀ (l : List Hd) (a : Int), l.Pairwise (fun a b => a.m.from_ ≤ b.m.from_) → l.Pairwise (fun a b => a.m.from_ ≠ b.m.from_) → (∀ x ∈ l, a ≤ x.m.from_ ∧ x.m.from_ < 16) → a ≤ 16 → (l.length : Int) ≤ 16 - a := by
    intro l
    induction l with
    | nil => intro a _ _ _ _; simp only [List.length_nil]; omega
    | cons x l ih =>
      intro a h1 h2 h3 ha; rw [List.pairwise_cons] at h1 h2; have hx := h3 x (by simp); have := ih (x.m.from_ + 1) h1.2 h2.2 (fun y hy => by have e1 := h1.1 y hy; have e2 := h2.1 y hy; have e3 := h3 y (by simp [hy]); omega) (by omega); simp only [List.length_cons]; omega
  have := key _ 0 h1 h2 h3 (by decide); omega
end
section
open Tryz Go.RowKit YtaanjifekgfemaaGreat.K YtaanjifekgfemaaGreat.W
attribute [local irreducible] Bg Ak Bb sub neg mag Da mul Dy
theorem Dg : FA 138 0 0 := fun _ _ => by simp [Instr.fieldAt, Instr.sureAddr, go_sem]
theorem Bgz : CF 125 := fun _ _ => by simp [go_sem]
theorem Bo0 : CF 127 := fun _ _ => by simp [go_sem]
theorem Bo6 : CF 139 := fun _ _ => by simp [go_sem]
theorem Boq : CF 144 := fun _ _ => by simp [go_sem]
theorem V4 : (Tryz.prog.info? 138).map (fun i => (i.zero, i.size, i.bytes)) = some (some (.agg #[Value.int .i64 0, Value.int .i64 0, Value.int .i64 0, Value.int .i64 0, Value.int .i64 0, Value.int .i64 0, Value.bool false, Value.bool false, Value.int .i64 0, Value.int .i64 0, Value.int .i64 0, Value.int .i64 0, Value.int .i64 0, Value.slice none 0 0, Value.int .i64 0]), 15, 128) := by kernel_rfl
theorem Bnz : CF 126 := fun _ _ => by simp [go_sem]
theorem Bo1 : CF 128 := fun _ _ => by simp [go_sem]
theorem At8 (x : Hd) (y : M) (B : Option Addr) (cb : Nat) (b : Nat) (w0 w : World) (F0 : List Nat) (L G : List Res) (I : St w0 F0 w L G) (j : Nat) (hj : L[j]? = some (Aa b (Pq y B cb) 103)) :
  Calls Tryz.prog 126 #[.agg (hdC x).toArray, .pointer (some ⟨b, 0, none⟩)] w fun e w' => e = .returned (.bool (decide (x.m.from_ = y.from_))) ∧ St w0 F0 w' L G := by
 refine W.func func126 O ntmps126 O<|Wh O<|Ow O (X.boxA I O fun p2 w2 I => I.g O O<|Ds O O<|I.f Dg O O<|I.f Co O O<|I.l 0 O O O O<|I.f Co O O<|I.y O (Y.load (j + 1) isAgg3 O (by simpa using hj) O)<|?_); refine I.Y O O O (fun b9 hb9 => I.g O O<|Od O<|We O<|⟨_, Ac.one results126 O, ?_⟩); exact ⟨congrArg (fun b => Ending.returned (.bool b)) hb9, (I.dr 1)⟩
theorem At9 (x y : Hd) (hx : 0 ≤ x.m.from_ ∧ x.m.from_ < 16) (hy : 0 ≤ y.m.from_ ∧ y.m.from_ < 16) (w0 w : World) (F0 : List Nat) (L G : List Res) (I : St w0 F0 w L G) :
  Calls Tryz.prog 128 #[.agg (hdC x).toArray, .agg (hdC y).toArray] w fun e w' => e = .returned (.int .i64 (x.m.from_ - y.m.from_)) ∧ St w0 F0 w' L G := by
 refine W.func func128 O ntmps128 O<|Wh O<|Ow O (X.boxA I O fun p2 w2 I => Ow O (X.boxA I O fun p3 w3 I => I.a O O<|Ds O O<|I.f Dg O O<|I.f Co O O<|I.l 1 O O O O<|I.f Dg O O<|I.f Co O O<|I.l 0 O O O O<|I.y O (Y.subI O O (by omega))<|I.a O O<|Od O<|We O<|⟨_, Ac.one results128 O, ?_⟩)); exact ⟨O, (I.dr 2)⟩
theorem Bc1 {l : List Hd} (h : Asc l) (k : Nat) (hk : k + 1 < l.length) : l[k].m.from_ ≤ l[k + 1].m.from_ := (List.pairwise_iff_getElem.1 h) k (k + 1) (by omega) hk (by omega)
theorem Ay1 {α : Type} {c : α → List Value} {m : Nat} (hc : ∀ x, (c x).length = m) (l : List α) (k : Nat) (h : k + 1 < l.length) : ((Ae c l).drop (((k : Int) + 1).toNat * m)).take m = c l[k + 1] := P4 hc l (k + 1) h
theorem Ay0 {α : Type} {c : α → List Value} {m : Nat} (hc : ∀ x, (c x).length = m) (l : List α) (k : Nat) (h : k < l.length) : ((Ae c l).drop (((k : Int) + 1 - 1).toNat * m)).take m = c l[k] := by
 rw [show ((k : Int) + 1 - 1).toNat = k by omega]; exact P4 hc l k h
theorem Ac7 (l : List Hd) (hl : l.length ≤ 16) (hasc : Asc l) (hin : ∀ x ∈ l, 0 ≤ x.m.from_ ∧ x.m.from_ < 16) (A : Option Addr) (cap : Nat) (w0 w : World) (F0 : List Nat) (L G : List Res) (I : St w0 F0 w L G) (hr : Rds L G (.slice A l.length cap) l.length (Ae hdC l)) :
  Calls Tryz.prog 144 #[.slice A l.length cap, .int .i64 0, .int .i64 l.length, .func (.func 128) #[] #[]] w fun e w' => e = .returned (.tuple #[]) ∧ St w0 F0 w' L G := by
 refine W.func func144 O ntmps144 O<|Wh O<|I.u O O<|I.j O O O (by omega)<|I.a O O<|Od O<|Wb O<|?_; refine W.loop (γ := Nat) [(0, .slice _ _ _), (1, .int _ _), (2, .int _ _), (3, _)] (fun k => [(8, .int .i64 ((k : Int) + 1))]) (fun k w => (k ≤ l.length) ∧ St w0 F0 w L G) (fun k => l.length - k) (0) O ⟨O, O, O, O, trivial⟩ ?_ ?_ ?_
 ·exact ⟨O, trivial⟩
 ·exact ⟨by omega, I⟩
 ·clear I; rintro k j w1 ⟨hk, I⟩; refine Wq O<|Wh O<|I.u O O<|I.u O O<|I.v O O O (fun b14 hb14 => Od O<|?_); cases b14
  ·replace hb14 := dF hb14; refine Wu O O<|W.exit O<|⟨_, Ac.none results144, ?_⟩; exact ⟨O, I⟩
  ·replace hb14 := dT hb14; refine Wt O O<|Wk O<|Wq O<|Wb O<|Wh O<|I.u O O<|I.a O O<|Od O<|Wb O<|?_; refine W.loop (γ := Unit) [(0, .slice _ _ _), (1, .int _ _), (2, .int _ _), (3, _), (8, .int _ _)] (fun _ => [(9, .int .i64 ((k : Int) + 1))]) (fun _ w => St w0 F0 w L G) (fun _ => 0) (()) O ⟨O, O, O, O, O, trivial⟩ ?_ ?_ ?_
   ·exact ⟨O, trivial⟩
   ·exact I
   ·clear I; rintro _ j2 w2 I; refine Wq O<|Wq O<|?_; have hk1 : k + 1 < l.length := by omega
    have hle := Bc1 hasc k hk1; have hi1 := hin _ (List.getElem_mem hk1); have hi0 := hin _ (List.getElem_mem (show k < l.length by omega)); refine I.dv [] (T0 [0,1,2,3,4,5,6,7,8,9,10,11,12,13] (.op 14 1 (T0 [15,16] .nil))) O (by kernel_rfl) O (by kernel_rfl) fun _ I => ?_; refine I.zu O O<|I.zu O O<|Drw.yb O O O I.ctx (Y.gtr O O) (fun b20 hb20 => I.zb O O<|?_); cases b20
    ·replace hb20 := dF hb20; exact absurd hb20 (by omega)
    ·replace hb20 := dT hb20; refine I.z O (Y.moveV O)<|I.zs O O<|I.zu O O<|I.z O (Y.indexAddr underlying97 sizeOf138 O O ((hr.sl I).ne (Bi B5 (by decide) (by omega))) (by omega))<|?_; refine I.z O (Y.loadSlA isAgg138 sizeOf138 O hr (Ay1 B5 l k hk1) (B5 _))<|I.zs O O<|I.zu O O<|I.z O (Y.subI O O (by omega))<|I.z O (Y.indexAddr underlying97 sizeOf138 O O ((hr.sl I).ne (Bi B5 (by decide) (by omega))) (by omega))<|?_; refine I.z O (Y.loadSlA isAgg138 sizeOf138 O hr (Ay0 B5 l k (by omega)) (B5 _))<|Dw O (X.retV Bo1 (fs := []) (cs := []) O (At9 _ _ hi1 hi0 _ _ _ _ _ I) O fun _ I => ⟨I.ctx, Drw.yb O O O I.ctx (Y.lss O O) (fun b33 hb33 => I.zk O O O<|Dd<|?_)⟩); cases b33
     ·replace hb33 := dF hb33; refine Wu O O<|W.exit O<|Wr O<|I.u O O<|I.j O O O (by omega)<|I.a O O<|Od O<|?_; exact ⟨k + 1, ⟨O, trivial⟩, ⟨O, O, O, O, trivial⟩, ⟨by omega, I⟩, by omega⟩
     ·replace hb33 := dT hb33; exact absurd hb33 (by omega)
theorem Af1 (l : List Hd) (hl : l.length ≤ 16) (hasc : Asc l) (hin : ∀ x ∈ l, 0 ≤ x.m.from_ ∧ x.m.from_ < 16) (A : Option Addr) (cap : Nat) (w0 w : World) (F0 : List Nat) (L G : List Res) (I : St w0 F0 w L G) (hr : Rds L G (.slice A l.length cap) l.length (Ae hdC l)) :
  Calls Tryz.prog 139 #[.slice A l.length cap, .int .i64 l.length, .func (.func 128) #[] #[]] w fun e w' => e = .returned (.tuple #[]) ∧ St w0 F0 w' L G := by
 refine W.func func139 O ntmps139 O<|Wh O<|I.a O O<|Ds O O<|I.u O O<|I.a O O<|I.a O O<|Od O<|Wq O<|Wb O<|?_; refine W.loop (γ := Unit) [(0, .slice _ _ _), (1, .int _ _), (2, _), (6, .int _ _), (7, .int _ _), (8, .int _ _)] (fun _ => []) (fun _ w => St w0 F0 w L G) (fun _ => 0) (()) O ⟨O, O, O, O, O, O, trivial⟩ ?_ ?_ ?_
 ·exact trivial
 ·exact I
 ·clear I; rintro _ j2 w2 I; refine Wq O<|Wh O<|I.u O O<|I.u O O<|I.X O O O (fun b13 hb13 => Od O<|?_); cases b13
  ·replace hb13 := dF hb13; refine Wu O O<|W.exit O<|Wh O<|I.s O O<|I.u O O<|I.u O O<|I.y O (Y.moveV O)<|Ow O (X.ret Boq (Ac7 l hl hasc hin A cap _ _ _ _ _ I hr) O fun _ I => Od O<|Wb O<|?_); refine W.loop (γ := Unit) [(0, .slice _ _ _), (1, .int _ _), (2, _), (6, .int _ _)] (fun _ => []) (fun _ w => St w0 F0 w L G) (fun _ => 0) (()) O ⟨O, O, O, O, trivial⟩ ?_ ?_ ?_
   ·exact trivial
   ·exact I
   ·clear I; rintro _ j2 w2 I; refine Wq O<|Wh O<|I.u O O<|I.u O O<|I.v O O O (fun b30 hb30 => Od O<|?_); cases b30
    ·replace hb30 := dF hb30; refine Wu O O<|W.exit O<|⟨_, Ac.none results139, ?_⟩; exact ⟨O, I⟩
    ·replace hb30 := dT hb30; exact absurd hb30 (by omega)
  ·replace hb13 := dT hb13; exact absurd hb13 (by omega)
theorem Sr (l : List Hd) (hl : l.length ≤ 16) (hasc : Asc l) (hin : ∀ x ∈ l, 0 ≤ x.m.from_ ∧ x.m.from_ < 16) (A : Option Addr) (cap : Nat) (w0 w : World) (F0 : List Nat) (L G : List Res) (I : St w0 F0 w L G) (hr : Rds L G (.slice A l.length cap) l.length (Ae hdC l)) :
  Calls Tryz.prog 127 #[.slice A l.length cap, .func (.func 128) #[] #[]] w fun e w' => e = .returned (.tuple #[]) ∧ St w0 F0 w' L G := by
 refine W.func func127 O ntmps127 O<|Wr O<|I.s O O<|I.s O O<|I.y O (Y.lenS underlying97 O)<|I.y O (Y.moveV O)<|Ow O (X.ret Bo6 (Af1 l hl hasc hin A cap _ _ _ _ _ I hr) O fun _ I => Od O<|⟨_, Ac.none results127, ?_⟩); exact ⟨O, I⟩
set_option maxHeartbeats 1000000 in
theorem Zm (p : Par) (me : Int) (l : List Hd) (hl : l.length ≤ 1000000) (hasc : Asc l) (A : Option Addr) (cap : Nat) (w0 w : World) (F0 : List Nat) (L G : List Res) (I : St w0 F0 w L G) (hr : Rds L G (.slice A l.length cap) l.length (Ae hdC l)) :
  Calls Tryz.prog 118 #[.agg #[.int .i64 p.N, .int .i64 p.F, .int .i64 p.D, .int .i64 p.Beat, .int .i64 p.Rho, .int .i64 p.Delay, .int .i64 p.Jitter, .int .i64 p.Eps, .int .i64 p.Mu, .int .i64 p.Hold, .int .i64 p.Pulse, .int .i64 p.Second], .int .i64 me, .slice A l.length cap] w fun e w' => ∃ A' c', e = .returned (.slice A' (Al p me l).length c') ∧ St w0 F0 w' (Af (.slice A' (Al p me l).length c') 138 15 (Al p me l).length (Ae hdC (Al p me l)) :: L) G := by
 refine W.func func118 O ntmps118 O<|Wh O<|Ow O (X.boxA I O fun p3 w3 I => I.y O (Y.assignS O)<|Ds O O<|I.y O (Y.assignS O)<|Od O<|Wq O<|Wh O<|?_); replace I := I.nilRow 138 15; refine I.s O O<|I.y O (Y.lenS underlying97 O)<|I.u O O<|Od O<|Wb O<|?_; refine W.loop (γ := Nat × (Option Addr × Nat)) [(1, .int _ _), (3, .pointer _), (12, .slice _ _ _), (13, .int _ _)] (fun x => [(7, .slice x.2.1 (Al p me (l.take x.1)).length x.2.2), (14, .int .i64 (x.1 : Int))]) (fun x w => x.1 ≤ l.length ∧ St w0 F0 w (Af (.slice x.2.1 (Al p me (l.take x.1)).length x.2.2) 138 15 (Al p me (l.take x.1)).length (Ae hdC (Al p me (l.take x.1))) :: Aa p3 (E4 p) 23 :: L) G) (fun x => l.length - x.1) ((0, (none, 0))) O ⟨O, O, O, O, trivial⟩ ?_ ?_ ?_
 ·exact ⟨O, O, trivial⟩
 ·exact ⟨by omega, I⟩
 ·clear I; rintro ⟨k, ⟨A7, c7⟩⟩ j w5 ⟨hk, I⟩; refine Wh O<|I.v O O O (fun b15 hb15 => Od O<|Wq O<|?_); cases b15
  ·replace hb15 := dF hb15; refine Wu O O<|W.exit O<|Wq O<|?_; obtain rfl : k = l.length := by omega
   have e1 : l.take l.length = l := List.take_length; have hasc2 := hasc.sublist (List.take_sublist l.length l); refine Wr O<|I.s O O<|Ow O (X.ret Bo0 (Sr (Al p me (l.take l.length)) (I2 hasc2) (hasc2.sublist (Et p me _)) (fun x hx => by have := Sw hx; omega) A7 c7 _ _ _ _ _ I (Rds.rowL 0 rfl)) rfl fun _ I => ?_); refine Ds O O<|I.s O O<|I.y O (Y.assignS O)<|Od O<|We O<|⟨_, Ac.one results118 O, ?_⟩; have hst2 := (I.sub (.cons_cons _ (.cons _ (.refl _)))); dsimp only at hst2; rw [e1] at hst2; exact ⟨A7, c7, congrArg (fun q => Ending.returned (.slice A7 (Al p me q).length c7)) e1, hst2⟩
  ·replace hb15 := dT hb15; refine Wt O O<|Wk O<|Wq O<|Wb O<|Wq O<|?_; have hk1 : k < l.length := by omega
   have htl : (Al p me (l.take k)).length ≤ 1000000 := by have := (Et p me (l.take k)).length_le; rw [List.length_take] at this; omega
   refine Wr O<|I.y O (Y.indexAddr underlying97 sizeOf138 O O ((Rds.sl ((hr.cons _).cons _) I).ne (Bi B5 (by decide) (by omega))) (by omega))<|?_; refine I.y O (Y.loadSlA isAgg138 sizeOf138 O ((hr.cons _).cons _) (Bo B5 l k hk1) (B5 _))<|Ow O (X.allocA I zeroValue138 fun p9 w9 I => Ow O (X.storeS I 0 sizeOf138 O O O O O (lZ O) O O fun _ I => Ds O O<|I.f Dg O O<|I.y O (Y.loadA 0 isAgg103 sizeOf103 O O O O)<|Ow O (X.allocA I zeroValue103 fun p10 w10 I => Ow O (X.storeS I 0 sizeOf103 O O O O O (lZ O) O O fun _ I => Ds O O<|I.s O O<|I.y O (Y.makeFunc O O)<|Ow O (X.retB Bgz (Hv hdC B5 (fun x : Hd => decide (x.m.from_ = l[k].m.from_)) (Al p me (l.take k)) (by omega) A7 c7 126 [] [.pointer (some ⟨p10, 0, none⟩)] Bnz _ _ _ _ _ I (Rds.rowL 2 O) (fun x hx w I => At8 x l[k].m _ _ _ _ _ _ _ _ I 0 O)) O fun b22 w22 hb22 I => I.g O O<|Od O<|Wq O<|?_))))); refine W.cut [(1, .int _ _), (3, .pointer _), (7, .slice _ _ _), (9, .pointer _), (12, .slice _ _ _), (13, .int _ _), (14, .int _ _)] (fun x : Bool => [(48, .bool x)]) (fun x w => x = decide (tk p me (Al p me (l.take k)) l[k]) ∧ St w0 F0 w (Aa p10 (Pq l[k].m l[k].A l[k].cap) 103 :: Aa p9 (hdC l[k]) 138 :: Af (.slice A7 (Al p me (l.take k)).length c7) 138 15 (Al p me (l.take k)).length (Ae hdC (Al p me (l.take k))) :: Aa p3 (E4 p) 23 :: L) G) ⟨O, O, O, O, O, O, O, trivial⟩ ?_ ?_
   rotate_left
   ·clear I; rintro b48 j w7 ⟨hb48, I⟩; cases b48
    ·replace hb48 := dF hb48; refine Wu O O<|Wk O<|Wr O<|I.j O O O (by omega)<|I.u O O<|Od O<|?_; have e2 : Al p me (l.take (k + 1)) = Al p me (l.take k) := by rw [U0 p me l k hk1]; exact if_neg hb48
     refine ⟨(k + 1, (A7, c7)), ⟨?_, O, trivial⟩, ⟨O, O, O, O, trivial⟩, ⟨by omega, by rw [e2]; exact (I.dr 2)⟩, by dsimp only at *; omega⟩; rw [e2]; rfl
    ·replace hb48 := dT hb48; refine Wt rfl rfl<|Wr rfl<|I.s rfl rfl<|I.y rfl (Y.loadA 1 isAgg138 sizeOf138 rfl rfl rfl rfl)<|Ow rfl (X.lit1 I underlying97 sizeOf138 zeroValue138 rfl rfl rfl fun p51 w51 I => Ow rfl (X.app I 3 0 underlying97 V4 rfl rfl rfl rfl rfl rfl rfl rfl (by unfold maxLen; omega) (by omega) fun A52 c52 w52 I => ?_)); refine I.y O (Y.assignS O)<|Od O<|Wr O<|I.j O O O (by omega)<|I.u O O<|Od O<|?_; have e2 : Al p me (l.take (k + 1)) = Al p me (l.take k) ++ [l[k]] := by rw [U0 p me l k hk1]; exact if_pos hb48
     have e3 : (Al p me (l.take k) ++ [l[k]]).length = (Al p me (l.take k)).length + 1 := by simp
     have e4 : Ae hdC (Al p me (l.take k) ++ [l[k]]) = Ae hdC (Al p me (l.take k)) ++ hdC l[k] := by rw [Cy]; simp [Ae]
     refine ⟨(k + 1, (A52, c52)), ⟨?_, O, trivial⟩, ⟨O, O, O, O, trivial⟩, ⟨by omega, by rw [e2, e3, e4]; exact (I.dr 3)⟩, by dsimp only at *; omega⟩; rw [e2, e3]; rfl
   refine Wr O<|I.f Ha O O<|I.l 0 O O O O<|I.Y O O O (fun b25 hb25 => I.b O O<|?_); cases b25
   ·replace hb25 := dF hb25; refine On O<|On O<|On O<|I.k O O O<|I.b O O<|On O<|On O<|On O<|On O<|On O<|On O<|I.k O O O<|I.b O O<|On O<|On O<|On O<|On O<|I.k O O O<|I.b O O<|On O<|On O<|I.k O O O<|Od O<|?_; exact ⟨_, ⟨O, trivial⟩, ⟨O, O, O, O, O, O, O, trivial⟩, (decide_eq_false (fun h => hb25 h.1)).symm, I⟩
   ·replace hb25 := dT hb25; refine I.f Co O O<|I.l 0 O O O O<|I.W O O O (fun b29 hb29 => I.k O O O<|I.b O O<|?_); cases b29
    ·replace hb29 := dF hb29; refine On O<|On O<|On O<|On O<|On O<|On O<|I.k O O O<|I.b O O<|On O<|On O<|On O<|On O<|I.k O O O<|I.b O O<|On O<|On O<|I.k O O O<|Od O<|?_; exact ⟨_, ⟨O, trivial⟩, ⟨O, O, O, O, O, O, O, trivial⟩, (decide_eq_false (fun h => hb29 h.2.1)).symm, I⟩
    ·replace hb29 := dT hb29; refine I.f Co O O<|I.l 0 O O O O<|I.f F3 O O<|I.l 3 O O O O<|I.y O (Y.min2 O O)<|I.v O O O (fun b37 hb37 => I.k O O O<|I.b O O<|?_); cases b37
     ·replace hb37 := dF hb37; refine On O<|On O<|On O<|On O<|I.k O O O<|I.b O O<|On O<|On O<|I.k O O O<|Od O<|?_; exact ⟨_, ⟨O, trivial⟩, ⟨O, O, O, O, O, O, O, trivial⟩, (decide_eq_false (fun h => hb37 h.2.2.1)).symm, I⟩
     ·replace hb37 := dT hb37; refine I.f Co O O<|I.l 0 O O O O<|I.u O O<|I.yb O (Y.neq O O) (fun b43 hb43 => I.k O O O<|I.b O O<|?_); cases b43
      ·replace hb43 := dF hb43; refine On O<|On O<|I.k O O O<|Od O<|?_; exact ⟨_, ⟨O, trivial⟩, ⟨O, O, O, O, O, O, O, trivial⟩, (decide_eq_false (fun h => hb43 h.2.2.2.1)).symm, I⟩
      ·replace hb43 := dT hb43; refine I.b O O ?_; cases b22
       ·replace hb22 := dF hb22; refine I.q O O<|I.k O O O<|Od O<|?_; exact ⟨_, ⟨O, trivial⟩, ⟨O, O, O, O, O, O, O, trivial⟩, (decide_eq_true ⟨hb25, hb29, hb37, hb43, hb22⟩).symm, I⟩
       ·replace hb22 := dT hb22; refine I.q O O<|I.k O O O<|Od O<|?_; exact ⟨_, ⟨O, trivial⟩, ⟨O, O, O, O, O, O, O, trivial⟩, (decide_eq_false (fun h => h.2.2.2.2 hb22)).symm, I⟩
end
section
open Tryz Go.RowKit YtaanjifekgfemaaGreat.K YtaanjifekgfemaaGreat.W
theorem E5 (q : Bool) : Value.bool q = .bool (decide (q = true)) := by cases q <;> rfl
def Bn (l : List (Int × Int)) : Prop := l.length ≤ 1000000 ∧ ∀ x ∈ l, Bz x.1 ∧ Bz x.2
theorem Cz {l : List (Int × Int)} (h : Fo l) : Bn l := by
 refine ⟨by have := h.1.1; omega, fun x hx => ?_⟩; obtain ⟨k, hk, rfl⟩ := List.getElem_of_mem hx; have h2 := h.1.2 k hk; have e : lp l k = l[k] := by simp [lp, hk]
 unfold H1 at h2; rw [e] at h2; unfold Bz; omega
theorem Zc (p : Par) (s : Stt) : Bn (Bf p s).tab := by
 simp only [Bf]; split
 ·exact Cz (by assumption)
 ·exact Cz Ek
theorem Su (p : Par) (s : Stt) (ticks : Int) (nx : Stt) : Bn (B1 p s ticks nx).tab := by
 rw [Ln]; exact Zc p nx
structure Inp where
  ticks : Int
  heard : List Hd
  HA : Option Addr
  hcap : Nat
  ref : Bool
  reading : Int
  given : Bool
  tab : List (Int × Int)
  TA : Option Addr
  tcap : Nat
def Fp (i : Inp) : List Value := [.int .i64 i.ticks, .slice i.HA i.heard.length i.hcap, .bool i.ref, .int .i64 i.reading, .bool i.given, .slice i.TA i.tab.length i.tcap]
def A51 (p : Par) (s : Stt) (kind me : Int) (ref : Bool) (Aw : Sp) : M where
  kind := kind
  from_ := me
  slo := s.lo
  shi := s.hi
  held := s.held
  hops := s.hops
  good := s.good
  ref := ref
  elo := Aw.lo
  ehi := Aw.hi
  pulse := if Bq p s = 0 then 0 else Cn p s.time
  time := (Bm s).st
  num := (Bm s).sn
  tab := s.tab
def Fd (p : Par) (i : Inp) : Prop := Cj p i.reading ∧ i.ref = true
instance (p : Par) (i : Inp) : Decidable (Fd p i) := by unfold Fd; infer_instance
def Ex (p : Par) (i : Inp) : Sp := if Fd p i then Aw p i.reading else ⟨0, 0⟩
def Ca (p : Par) (i : Inp) : List Sp := if Fd p i then [Aw p i.reading] else []
def Pk (p : Par) (h : Hd) : Sp := way p ⟨h.m.elo, h.m.ehi⟩ h.age
def D5 (p : Par) (acc : List Sp) (l : List Hd) : List Sp := l.foldl (fun acc h => if h.m.ref = true then acc ++ [Pk p h] else acc) acc
theorem Ph (p : Par) (acc : List Sp) (l : List Hd) (k : Nat) (h : k < l.length) : D5 p acc (l.take (k + 1)) = if l[k].m.ref = true then D5 p acc (l.take k) ++ [Pk p l[k]] else D5 p acc (l.take k) := by
 unfold D5; rw [List.take_succ_eq_append_getElem h, List.foldl_append]; rfl
theorem L4 (p : Par) (acc : List Sp) (l : List Hd) : (D5 p acc l).length ≤ acc.length + l.length := by
  unfold D5
  induction l generalizing acc with
  | nil => simp
  | cons x l ih =>
    simp only [List.foldl_cons, List.length_cons]; refine Nat.le_trans (ih _) ?_; split
    · simp only [List.length_append, List.length_cons, List.length_nil]; omega
    · omega
def Ck (p : Par) (me : Int) (i : Inp) : List Sp := D5 p (Ca p i) (Al p me i.heard)
def Xu (p : Par) (s : Stt) (i : Inp) : Stt := { s with lo := (hold p ⟨s.lo, s.hi⟩ i.ticks).lo, hi := (hold p ⟨s.lo, s.hi⟩ i.ticks).hi, held := Dk s.held, hops := 0 }
def Ku (p : Par) (me : Int) (s : Stt) (i : Inp) : Stt := if Fc p.F (Ck p me i) then { Xu p s i with lo := (Db p.F (Ck p me i)).lo, hi := (Db p.F (Ck p me i)).hi, held := 0, good := true } else Xu p s i
def B7 (p : Par) (me : Int) (s : Stt) (i : Inp) : Stt := if i.given = true then { Ku p me s i with tab := i.tab } else Ku p me s i
theorem T2 (p : Par) (me : Int) (s : Stt) (i : Inp) : (Ku p me s i).tab = s.tab := by unfold Ku; split <;> rfl
def Cx (p : Par) (me : Int) (s : Stt) (i : Inp) : Stt := B1 p s i.ticks (B7 p me s i)
def Ik (p : Par) (me : Int) (s : Stt) (i : Inp) : M := A51 p (Cx p me s i) 1 me (decide (Fd p i)) (Ex p i)
theorem Bez (p : Par) (s : Stt) (ticks : Int) (nx : Stt) : (B1 p s ticks nx).sn ≤ 9223372036854775806 := by
 have h : (Mt p s ticks nx).sn ≤ 1073741824 := (H3 (J8 s.sta (I1 p s ticks nx) (L0 p (Pp p s ticks nx))) (I1 p s ticks nx)).2.2.2; unfold B1; split
 ·show (Mt p s ticks nx).sn ≤ _; omega
 ·omega
end
section
open Tryz Go.RowKit YtaanjifekgfemaaGreat.K YtaanjifekgfemaaGreat.W
attribute [local irreducible] Bg Ak Bb sub neg mag Da mul Dy
theorem Xd {S ρ ty} {parts : Array (Nat × Operand)} {a b f g h j k m n o d e q r t : Int} {u : Bool} {v y : Int} {z : Bool} {a1 : Option Addr} {d1 b1 : Nat} {e1 f1 g1 : Int} (hp : (parts.toList.map fun x => (x.1, ev ρ x.2)) = [(0, .agg #[.int .i64 a, .int .i64 b, .int .i64 f, .int .i64 g, .int .i64 h, .int .i64 j, .int .i64 k, .int .i64 m, .int .i64 n, .int .i64 o, .int .i64 d, .int .i64 e]), (1, .agg #[.int .i64 q, .int .i64 r, .int .i64 t, Value.bool u, .int .i64 v, .int .i64 y, Value.bool z, Value.slice a1 d1 b1, .int .i64 e1, .int .i64 f1, .int .i64 g1])]) : Y Tryz.prog S ρ (.build 60 parts) ty (.agg #[.int .i64 a, .int .i64 b, .int .i64 f, .int .i64 g, .int .i64 h, .int .i64 j, .int .i64 k, .int .i64 m, .int .i64 n, .int .i64 o, .int .i64 d, .int .i64 e, .int .i64 q, .int .i64 r, .int .i64 t, Value.bool u, .int .i64 v, .int .i64 y, Value.bool z, Value.slice a1 d1 b1, .int .i64 e1, .int .i64 f1, .int .i64 g1]) :=
 Y.build hp fun w => by simp [Instr.build, go_sem]
theorem Aa0 {S ρ ty} {parts : Array (Nat × Operand)}  (hp : (parts.toList.map fun x => (x.1, ev ρ x.2)) = []) : Y Tryz.prog S ρ (.build 103 parts) ty (.agg #[.int .i64 0, .int .i64 0, .int .i64 0, .int .i64 0, .int .i64 0, .int .i64 0, Value.bool false, Value.bool false, .int .i64 0, .int .i64 0, .int .i64 0, .int .i64 0, .int .i64 0, Value.slice none 0 0]) :=
 Y.build hp fun w => by simp [Instr.build, go_sem]
theorem Gr {S ρ ty} {parts : Array (Nat × Operand)} {x0 x1 a b x3 x4 : Int} {x5 : Bool} {x6 : Bool} {d e x8 f g : Int} {x10a : Option Addr} {x10l x10c : Nat} (hp : (parts.toList.map fun x => (x.1, ev ρ x.2)) = [(0, .int .i64 x0), (1, .int .i64 x1), (2, .agg #[.int .i64 a, .int .i64 b]), (3, .int .i64 x3), (4, .int .i64 x4), (5, Value.bool x5), (6, Value.bool x6), (7, .agg #[.int .i64 d, .int .i64 e]), (8, .int .i64 x8), (9, .agg #[.int .i64 f, .int .i64 g]), (10, Value.slice x10a x10l x10c)]) : Y Tryz.prog S ρ (.build 103 parts) ty (.agg #[.int .i64 x0, .int .i64 x1, .int .i64 a, .int .i64 b, .int .i64 x3, .int .i64 x4, Value.bool x5, Value.bool x6, .int .i64 d, .int .i64 e, .int .i64 x8, .int .i64 f, .int .i64 g, Value.slice x10a x10l x10c]) :=
 Y.build hp fun w => by simp [Instr.build, go_sem]
theorem Am7 {S ρ ty} {parts : Array (Nat × Operand)} {a b f g h j k m n o d e q r t : Int} {u : Bool} {v y : Int} {z : Bool} {a1 : Option Addr} {d1 b1 : Nat} {e1 f1 g1 x1 : Int} (hp : (parts.toList.map fun x => (x.1, ev ρ x.2)) = [(0, .agg #[.int .i64 a, .int .i64 b, .int .i64 f, .int .i64 g, .int .i64 h, .int .i64 j, .int .i64 k, .int .i64 m, .int .i64 n, .int .i64 o, .int .i64 d, .int .i64 e, .int .i64 q, .int .i64 r, .int .i64 t, Value.bool u, .int .i64 v, .int .i64 y, Value.bool z, Value.slice a1 d1 b1, .int .i64 e1, .int .i64 f1, .int .i64 g1]), (1, .int .i64 x1)]) : Y Tryz.prog S ρ (.build 153 parts) ty (.agg #[.int .i64 a, .int .i64 b, .int .i64 f, .int .i64 g, .int .i64 h, .int .i64 j, .int .i64 k, .int .i64 m, .int .i64 n, .int .i64 o, .int .i64 d, .int .i64 e, .int .i64 q, .int .i64 r, .int .i64 t, Value.bool u, .int .i64 v, .int .i64 y, Value.bool z, Value.slice a1 d1 b1, .int .i64 e1, .int .i64 f1, .int .i64 g1, .int .i64 x1]) :=
 Y.build hp fun w => by simp [Instr.build, go_sem]
theorem Q8 : FA 99 0 0 := fun _ _ => by simp [Instr.fieldAt, Instr.sureAddr, go_sem]
theorem Vx : FA 99 1 1 := fun _ _ => by simp [Instr.fieldAt, Instr.sureAddr, go_sem]
theorem Ax8 : FA 99 2 2 := fun _ _ => by simp [Instr.fieldAt, Instr.sureAddr, go_sem]
theorem Ax9 : FA 99 3 3 := fun _ _ => by simp [Instr.fieldAt, Instr.sureAddr, go_sem]
theorem Axq : FA 99 4 4 := fun _ _ => by simp [Instr.fieldAt, Instr.sureAddr, go_sem]
theorem Axx : FA 99 5 5 := fun _ _ => by simp [Instr.fieldAt, Instr.sureAddr, go_sem]
theorem Vi : FA 103 6 7 := fun _ _ => by simp [Instr.fieldAt, Instr.sureAddr, go_sem]
theorem Gb : FA 103 7 8 := fun _ _ => by simp [Instr.fieldAt, Instr.sureAddr, go_sem]
theorem Vj : FA 138 1 14 := fun _ _ => by simp [Instr.fieldAt, Instr.sureAddr, go_sem]
theorem Jv : FA 153 0 0 := fun _ _ => by simp [Instr.fieldAt, Instr.sureAddr, go_sem]
theorem Ah9 : FA 153 1 23 := fun _ _ => by simp [Instr.fieldAt, Instr.sureAddr, go_sem]
theorem Bu1 : CF 19 := fun _ _ => by simp [go_sem]
theorem Bnx : CF 117 := fun _ _ => by simp [go_sem]
theorem Bg7 : CF 118 := fun _ _ => by simp [go_sem]
theorem Ah2 : CF 119 := fun _ _ => by simp [go_sem]
theorem Bg8 : CF 120 := fun _ _ => by simp [go_sem]
theorem Bg9 : CF 122 := fun _ _ => by simp [go_sem]
theorem Bgq : CF 123 := fun _ _ => by simp [go_sem]
theorem Bgx : CF 124 := fun _ _ => by simp [go_sem]
theorem Bo4 : CF 137 := fun _ _ => by simp [go_sem]
theorem N9 : (Tryz.prog.info? 53).map (fun i => (i.zero, i.size, i.bytes)) = some (some (.agg #[Value.int .i64 0, Value.int .i64 0]), 2, 16) := by kernel_rfl
theorem Al2 (b : Nat) (T : TypeId) (p : Par) (s : Stt) (A : Option Addr) (cap : Nat) (rest : List Value) (kind me : Int) (ref : Bool) (elo ehi : Int) (hT : Bn s.tab) (hn : s.sn ≤ 9223372036854775806) (w0 w : World) (F0 : List Nat) (L G : List Res) (I : St w0 F0 w (frR b T p s A cap rest :: L) G) (hr : Rds [] G (.slice A (s.tab).length cap) (s.tab).length (lcs (s.tab))) :
  Calls Tryz.prog 124 #[.pointer (some ⟨b, 0, none⟩), .int .i64 kind, .int .i64 me, .bool ref, .agg #[.int .i64 elo, .int .i64 ehi]] w fun e w' => ∃ A' c', e = .returned (.agg (Pq (A51 p s kind me ref ⟨elo, ehi⟩) A' c').toArray) ∧ St w0 F0 w' (frR b T p (Bm s) A cap rest :: L) (Af (.slice A' (s.tab).length c') 114 2 (s.tab).length (lcs (s.tab)) :: G) := by
 refine W.func func124 O ntmps124 O<|Wh O<|Ow O (X.boxA I O fun p9 w9 I => Ow O (X.allocA I zeroValue103 fun p10 w10 I => Od O<|Wq O<|Wh O<|I.p O O<|I.y O (Y.isNil underlying50 O O)<|Od O<|Wu O O<|Wk O<|Wh O<|I.p O O<|Oc O Bu1 O ?_)); refine Ab (Ar5 b T p s A cap rest _ _ _ _ _ I.up_2) O ?_; clear I; rintro e w21 ⟨⟨n21, rfl, hn21⟩, I⟩; subst hn21; replace I := I.dn2; refine ⟨_, O, ?_⟩; refine I.y O (Y.moveU O)<|I.e O O O<|I.e O O O<|I.a O O<|I.a O O<|Ds O O<|I.p O O<|Ow O (X.ret Bo4 (dn2 (At1 b T p s A cap rest _ _ _ _ _ I.up_2 hn)) O fun _ I => I.y O (Y.moveU O)<|I.e O O O<|I.e O O O<|Ow O (X.allocA I zeroValue55 fun p13 w13 I => Ow O (X.storeS I 0 sizeOf55 O O O O O (lZ O) O O fun _ I => I.a O O<|Ds O O<|I.p O O<|I.t O O<|I.f Be O O<|I.y O (Y.loadA 3 isAgg57 sizeOf57 O O O O)<|Ow O (X.allocA I zeroValue57 fun p15 w15 I => Ow O (X.storeS I 0 sizeOf57 O O O O O (lZ O) O O fun _ I => Od O<|Wq O<|W.drawn O (by kernel_rfl) (Ctx _ _ (_) (_)) [18] (.op 0 0 (.op 1 0 (.op 2 0 (.op 3 0 (.op 4 0 (.op 5 0 (.op 6 0 (.op 7 0 (.op 8 0 (.op 9 0 (.op 10 0 (.op 11 0 (.op 12 0 (.op 13 0 (.op 14 0 (.op 15 0 (.op 16 1 (.op 17 0 (.op 18 1 .nil))))))))))))))))))) O (by kernel_rfl) I.drew.ctx<|?_))))); replace I := I.drew; generalize World.drew _ = wd at I ⊢; refine I.zu O O<|I.zu O O<|I.zf Br O O<|I.z O (Y.loadA 0 isAgg53 sizeOf53 O O O O)<|I.zf Bt O O<|I.zl 0 O O O O<|I.zf B3 O O<|I.zl 0 O O O O<|I.zf Bl O O<|I.z O (Y.load 0 isAgg4 O O O)<|I.zb O O<|I.z O (Y.loadA 3 isAgg53 sizeOf53 O O O O)<|I.zu O O<|I.z O (Y.loadA 1 isAgg55 sizeOf55 O O O O)<|I.zf I7 O O<|I.z O (Y.load 0 isAgg41 O O O)<|Dw O (X.call A9z O<|?_); refine Ab (Lc _ _ s.tab hT.1 _ _ _ _ _ I hr.hd) O ?_; clear I; rintro e w49 ⟨A49, c49, rfl, I⟩; refine ⟨_, O, ⟨(I.cxg 0 1), ?_⟩⟩; refine Dq O (I.cxg 0 1) (Gr O)<|Drw.z O O O O (X.storeS I 2 sizeOf103 O O O O O (lZ O) O O fun _ I => Dd<|We O<|⟨_, Ac.cell results124 O (Bd isAgg103 sizeOf103 2 I O O), ?_⟩); exact ⟨A49, c49, O, (I.dr 4)⟩
theorem Ay5 (p : Par) (me : Int) (s : Stt) (A : Option Addr) (cap : Nat) (hT : Bn s.tab) (w0 w : World) (F0 : List Nat) (L G : List Res) (I : St w0 F0 w L G) (hr : Rds [] G (.slice A (s.tab).length cap) (s.tab).length (lcs (s.tab))) :
  Calls Tryz.prog 72 #[.agg #[.int .i64 p.N, .int .i64 p.F, .int .i64 p.D, .int .i64 p.Beat, .int .i64 p.Rho, .int .i64 p.Delay, .int .i64 p.Jitter, .int .i64 p.Eps, .int .i64 p.Mu, .int .i64 p.Hold, .int .i64 p.Pulse, .int .i64 p.Second], .int .i64 me, .agg #[.int .i64 s.lo, .int .i64 s.hi, .int .i64 s.time, .bool s.set, .int .i64 s.held, .int .i64 s.hops, .bool s.good, .slice A s.tab.length cap, .int .i64 s.st, .int .i64 s.sn, .int .i64 s.life]] w fun e w' => ∃ b A' c', e = .returned (.pointer (some ⟨b, 0, none⟩)) ∧ St w0 F0 w' (frR b 153 p (Bf p s) A' c' [.int .i64 me] :: L) (Af (.slice A' ((Bf p s).tab).length c') 114 2 ((Bf p s).tab).length (lcs ((Bf p s).tab)) :: G) := by
 refine W.func func72 O ntmps72 O<|Wh O<|Ow O (X.boxA I O fun p3 w3 I => Ow O (X.boxA I O fun p5 w5 I => I.y O (Y.assignP O)<|Od O<|Wq O<|W.drawn O (by kernel_rfl) (Ctx _ _ (_) (_)) [] (.op 0 0 (.op 1 0 (.op 2 0 (.op 5 0 (.op 3 1 (.op 4 0 (.op 6 0 (.op 7 1 (.op 8 0 .nil))))))))) O (by kernel_rfl) I.drew.ctx<|?_)); replace I := I.drew; generalize World.drew _ = wd at I ⊢; refine I.z O (Y.loadA 1 isAgg23 sizeOf23 O O O O)<|I.z O (Y.loadA 1 isAgg23 sizeOf23 O O O O)<|I.z O (Y.loadA 0 isAgg57 sizeOf57 O O O O)<|I.zu O O<|Dw O (X.call Bj1 O<|?_); refine Ab (Sj p s _ _ hT.1 hT.2 _ _ _ _ _ I hr) O ?_; clear I; rintro e w10 ⟨A10, c10, rfl, I⟩; refine ⟨_, O, ⟨(I.cxg 0 1), ?_⟩⟩; refine Dq O (I.cxg 0 1) (Xd O)<|Dq O (I.cxg 0 1) (Am7 O)<|Dw O (X.boxA I O fun p14 w14 I => ⟨(I.cxg 1 1), Dq O (I.cxg 1 1) (Y.assignP O)<|Dd<|We O<|⟨_, Ac.one results72 O, ?_⟩⟩); exact ⟨p14, A10, c10, O, (I.sub (.cons_cons _ (.cons _ (.cons _ (.refl _)))))⟩
set_option maxHeartbeats 2000000 in
theorem Ao4 (b : Nat) (T : TypeId) (p : Par) (me : Int) (s : Stt) (A : Option Addr) (cap : Nat) (i : Inp) (hT : Bn s.tab) (hiT : Bn i.tab) (hl : i.heard.length ≤ 1000000) (hasc : Asc i.heard) (w0 w : World) (F0 : List Nat) (L G : List Res) (I : St w0 F0 w (frR b T p s A cap [.int .i64 me] :: L) G)
  (hrS : Rds [] G (.slice A (s.tab).length cap) (s.tab).length (lcs (s.tab))) (hrI : Rds [] G (.slice i.TA (i.tab).length i.tcap) (i.tab).length (lcs (i.tab))) (hrH : Rds [] G (.slice i.HA i.heard.length i.hcap) i.heard.length (Ae hdC i.heard)) :
  Calls Tryz.prog 116 #[.pointer (some ⟨b, 0, none⟩), .agg (Fp i).toArray] w fun e w' => ∃ A' c' A2 c2 G', e = .returned (.agg (Pq (Ik p me s i) A2 c2).toArray) ∧ (∀ r ∈ G, r ∈ G') ∧ Rds [] G' (.slice A' ((Cx p me s i).tab).length c') ((Cx p me s i).tab).length (lcs ((Cx p me s i).tab)) ∧ Rds [] G' (.slice A2 ((Ik p me s i).tab).length c2) ((Ik p me s i).tab).length (lcs ((Ik p me s i).tab)) ∧ St w0 F0 w' (frR b T p (Bm (Cx p me s i)) A' c' [.int .i64 me] :: L) G' := by
 have hnt : Bn (B7 p me s i).tab := by
  unfold B7; split
  ·exact hiT
  ·rw [T2]; exact hT
 have hbt : Bn (Cx p me s i).tab := Su p s i.ticks _; have h16 := I2 (p := p) (me := me) hasc; have hs0 : (Ca p i).length ≤ 1 := by unfold Ca; split <;> simp
 have hgl : (D5 p (Ca p i) ((Al p me i.heard).take (Al p me i.heard).length)).length ≤ 1000000 := by have := L4 p (Ca p i) ((Al p me i.heard).take (Al p me i.heard).length); rw [List.length_take] at this; omega
 refine W.func func116 O ntmps116 O<|Wh O<|Ow O (X.boxA I O fun p3 w3 I => Ow O (X.allocA I zeroValue103 fun p4 w4 I => Od O<|Wq O<|Wh O<|I.p O O<|I.y O (Y.isNil underlying150 O O)<|Od O<|Wu O O<|Wk O<|Wh O<|I.p O O<|I.t O O<|I.f Jv O O<|I.f Ej O O<|I.y O (Y.loadA 2 isAgg23 sizeOf23 O O O O)<|Ow O (X.allocA I zeroValue23 fun p5 w5 I => Ow O (X.storeS I 0 sizeOf23 O O O O O (lZ O) O O fun _ I => Ds O O<|I.y O (Y.loadA 0 isAgg23 sizeOf23 O O O O)<|I.f Ax9 O O<|I.l 2 O O O O<|Oc O Bnx O ?_)))); refine Ab (A55 p _ _ _ _ _ _ I) O ?_; clear I; rintro e w26 ⟨b26, rfl, hb26, I⟩; refine ⟨_, O, ?_⟩; refine I.y O (Y.moveU O)<|I.e O O O<|I.e O O O<|Ow O (X.allocA I zeroValue53 fun p6 w6 I => Ow O (X.storeS I 0 sizeOf53 O O O O O (lZ O) O O fun _ I => I.g O O<|Od O<|Wq O<|?_)); refine W.cut [(0, .pointer _), (3, .pointer _), (4, .pointer _), (5, .pointer _), (6, .pointer _)] (fun x : Bool => [(7, .bool x)]) (fun x w => x = decide (Fd p i) ∧ St w0 F0 w (Aa p6 (spC (Aw p i.reading)) 53 :: Aa p5 (E4 p) 23 :: Aa p4 ([.int .i64 0, .int .i64 0, .int .i64 0, .int .i64 0, .int .i64 0, .int .i64 0, .bool false, .bool false, .int .i64 0, .int .i64 0, .int .i64 0, .int .i64 0, .int .i64 0, .slice none 0 0]) 103 :: Aa p3 (Fp i) 99 :: frR b T p s A cap [.int .i64 me] :: L) G) ⟨O, O, O, O, O, trivial⟩ ?_ ?_
 rotate_left
 ·clear I; rintro b7 j w7 ⟨hb7, I⟩; refine Wh O<|?_; replace I := I.nilRow 53 2; refine I.y O (Y.assignS O)<|Od O<|Wq O<|?_; refine W.cut [(0, .pointer _), (3, .pointer _), (4, .pointer _), (5, .pointer _), (6, .pointer _), (7, .bool _)] (fun x : Option Addr × Nat => [(8, .slice x.1 (Ca p i).length x.2)]) (fun x w => St w0 F0 w (Af (.slice x.1 (Ca p i).length x.2) 53 2 (Ca p i).length (Ae spC (Ca p i)) :: Aa p6 (spC (Ex p i)) 53 :: Aa p5 (E4 p) 23 :: Aa p4 ([.int .i64 0, .int .i64 0, .int .i64 0, .int .i64 0, .int .i64 0, .int .i64 0, .bool false, .bool false, .int .i64 0, .int .i64 0, .int .i64 0, .int .i64 0, .int .i64 0, .slice none 0 0]) 103 :: Aa p3 (Fp i) 99 :: frR b T p s A cap [.int .i64 me] :: L) G) ⟨O, O, O, O, O, O, trivial⟩ ?_ ?_
  rotate_left
  ·clear I; rintro ⟨A8, c8⟩ j w8 I; refine Wq O<|Wq O<|W.drawn O (by kernel_rfl) (Ctx _ _ (_) (_)) [] (.op 0 0 (.op 1 0 (.op 2 0 (.op 3 0 (.op 4 0 (.op 5 0 (.op 6 0 (.op 9 0 (.op 7 1 (.op 8 0 .nil)))))))))) O (by kernel_rfl) I.drew.ctx<|?_; replace I := I.drew; generalize World.drew _ = wd at I ⊢; refine I.z O (Y.loadA 2 isAgg23 sizeOf23 O O O O)<|I.zp O O<|I.zt O O<|I.zf Ah9 O O<|I.zl 5 O O O O<|I.zf Vx O O<|I.z O (Y.load 4 isAgg97 O O O)<|I.zu O O<|Dw O (X.call Bg7 O<|?_); refine Ab (Zm p me i.heard hl hasc _ _ _ _ _ _ _ I hrH.hd) O ?_; clear I; rintro e w47 ⟨A47, c47, rfl, I⟩; refine ⟨_, O, ⟨(I.cx 1), ?_⟩⟩; refine Dq O (I.cx 1) (Y.lenS underlying97 O)<|Dd<|Wb O<|?_; refine W.loop (γ := Nat × (Option Addr × Nat)) [(0, .pointer _), (3, .pointer _), (4, .pointer _), (5, .pointer _), (6, .pointer _), (7, .bool _), (47, .slice _ _ _), (48, .int _ _)] (fun x => [(8, .slice x.2.1 (D5 p (Ca p i) ((Al p me i.heard).take x.1)).length x.2.2), (49, .int .i64 (x.1 : Int))]) (fun x w => x.1 ≤ (Al p me i.heard).length ∧ St w0 F0 w (Af (.slice A47 (Al p me i.heard).length c47) 138 15 (Al p me i.heard).length (Ae hdC (Al p me i.heard)) :: Af (.slice x.2.1 (D5 p (Ca p i) ((Al p me i.heard).take x.1)).length x.2.2) 53 2 (D5 p (Ca p i) ((Al p me i.heard).take x.1)).length (Ae spC (D5 p (Ca p i) ((Al p me i.heard).take x.1))) :: Aa p6 (spC (Ex p i)) 53 :: Aa p5 (E4 p) 23 :: Aa p4 ([.int .i64 0, .int .i64 0, .int .i64 0, .int .i64 0, .int .i64 0, .int .i64 0, .bool false, .bool false, .int .i64 0, .int .i64 0, .int .i64 0, .int .i64 0, .int .i64 0, .slice none 0 0]) 103 :: Aa p3 (Fp i) 99 :: frR b T p s A cap [.int .i64 me] :: L) G) (fun x => (Al p me i.heard).length - x.1) ((0, (A8, c8))) O ⟨O, O, O, O, O, O, O, O, trivial⟩ ?_ ?_ ?_
   ·exact ⟨O, O, trivial⟩
   ·exact ⟨by omega, I⟩
   ·clear I; rintro ⟨k, ⟨A8, c8⟩⟩ j w11 ⟨hk, I⟩; refine Wh O<|I.v O O O (fun b50 hb50 => Od O<|Wq O<|?_); cases b50
    ·replace hb50 := dF hb50; refine Wu O O<|W.exit O<|Wq O<|?_; obtain rfl : k = (Al p me i.heard).length := by omega
     have e1 : D5 p (Ca p i) ((Al p me i.heard).take (Al p me i.heard).length) = Ck p me i := by rw [List.take_length]; rfl
     refine Wr O<|I.p O O<|I.t O O<|I.f Jv O O<|I.f Be O O<|I.y O (Y.loadA 6 isAgg57 sizeOf57 O O O O)<|Ow O (X.allocA I zeroValue57 fun p11 w11 I => Ow O (X.storeS I 0 sizeOf57 O O O O O (lZ O) O O fun _ I => Od O<|Wq O<|W.drawn O (by kernel_rfl) (Ctx _ _ (_) (_)) [18, 19, 20, 21, 22] (.op 0 0 (.op 1 0 (.op 2 0 (.op 3 0 (.op 4 0 (.op 5 0 (.op 6 0 (.op 7 0 (.op 8 0 (.op 10 0 (.op 11 0 (.op 12 0 (.op 13 0 (.op 14 0 (.op 15 0 (.op 9 1 (.op 17 0 (.op 16 1 (.op 18 1 (.op 19 1 (.op 20 1 (.op 21 1 (.op 22 1 .nil))))))))))))))))))))))) O (by kernel_rfl) I.drew.ctx<|?_)); replace I := I.drew; generalize World.drew _ = wd at I ⊢; refine I.z O (Y.loadA 4 isAgg23 sizeOf23 O O O O)<|I.zp O O<|I.zt O O<|I.zf Jv O O<|I.zf Be O O<|I.zf Br O O<|I.z O (Y.loadA 7 isAgg53 sizeOf53 O O O O)<|I.zf Q8 O O<|I.zl 6 O O O O<|I.zp O O<|I.zt O O<|I.zf Jv O O<|I.zf Be O O<|I.zf Bt O O<|I.zl 7 O O O O<|Dw O (X.ret Bg8 (X4 p _ _ _ _ _ _ _ _ I ) O fun _ I => ⟨I.ctx, I.zf Br O O<|Dw O (X.ret Ah3 (Jo _ _ _ _ _ _ I ) O fun _ I => ⟨I.ctx, Drw.z O O O O (X.storeS I 0 sizeOf53 O O O O O (lZ O) O O fun _ I => Drw.zy O O O O I.ctx (Y.fieldAddr Bt O)<|Drw.z O O O O (X.storeV I 0 (.int _ _) sizeOf3 O O O O (lZ O) O O fun _ I => Drw.zy O O O O I.ctx (Y.fieldAddr B3 O)<|Drw.z O O O O (X.storeV I 0 (.int _ _) sizeOf3 O O O O (lZ O) O O fun _ I => Dd<|Wq O<|Wh O<|I.y O (Y.loadA 4 isAgg23 sizeOf23 O O O O)<|I.s O O<|Oc O Bg9 O ?_)))⟩)⟩); refine Ab (To p (D5 p (Ca p i) ((Al p me i.heard).take (Al p me i.heard).length)) hgl A8 c8 _ _ _ _ _ I (Rds.rowL 2 O)) O ?_; clear I; rintro e w95 ⟨b97, rfl, hb97, I⟩; refine ⟨_, O, ?_⟩; refine I.y O (Y.moveU O)<|I.e O O O<|I.e O O O<|Ow O (X.allocA I zeroValue53 fun p12 w12 I => Ow O (X.storeS I 0 sizeOf53 O O O O O (lZ O) O O fun _ I => I.g O O<|Od O<|?_)); refine W.cut [(0, .pointer _), (3, .pointer _), (4, .pointer _), (6, .pointer _), (7, .bool _), (11, .pointer _)] (fun _ : Unit => []) (fun _ w => St w0 F0 w (Aa p11 (Fk (Ku p me s i) A cap) 57 :: Aa p6 (spC (Ex p i)) 53 :: Aa p5 (E4 p) 23 :: Aa p4 ([.int .i64 0, .int .i64 0, .int .i64 0, .int .i64 0, .int .i64 0, .int .i64 0, .bool false, .bool false, .int .i64 0, .int .i64 0, .int .i64 0, .int .i64 0, .int .i64 0, .slice none 0 0]) 103 :: Aa p3 (Fp i) 99 :: frR b T p s A cap [.int .i64 me] :: L) G) ⟨O, O, O, O, O, O, trivial⟩ ?_ ?_
     rotate_left
     ·clear I; rintro _ j w19 I; refine Wq O ?_; refine W.cut [(0, .pointer _), (3, .pointer _), (4, .pointer _), (6, .pointer _), (7, .bool _), (11, .pointer _)] (fun _ : Option Addr × Nat => []) (fun x w => Rds [] G (.slice x.1 ((B7 p me s i).tab).length x.2) ((B7 p me s i).tab).length (lcs ((B7 p me s i).tab)) ∧ St w0 F0 w (Aa p11 (Fk (B7 p me s i) x.1 x.2) 57 :: Aa p6 (spC (Ex p i)) 53 :: Aa p5 (E4 p) 23 :: Aa p4 ([.int .i64 0, .int .i64 0, .int .i64 0, .int .i64 0, .int .i64 0, .int .i64 0, .bool false, .bool false, .int .i64 0, .int .i64 0, .int .i64 0, .int .i64 0, .int .i64 0, .slice none 0 0]) 103 :: Aa p3 (Fp i) 99 :: frR b T p s A cap [.int .i64 me] :: L) G) ⟨O, O, O, O, O, O, trivial⟩ ?_ ?_
      rotate_left
      ·clear I; rintro ⟨A9, c9⟩ j w21 ⟨hr9, I⟩; refine Wq O<|W.drawn O (by kernel_rfl) (Ctx _ _ (_) (_)) [6] (.op 0 0 (.op 1 0 (.op 2 0 (.op 3 0 (.op 4 0 (.op 5 0 (.op 6 1 .nil))))))) O (by kernel_rfl) I.drew.ctx<|?_; replace I := I.drew; generalize World.drew _ = wd at I ⊢; refine I.zp O O<|I.zt O O<|I.zf Jv O O<|I.zf Q8 O O<|I.zl 4 O O O O<|I.z O (Y.loadA 0 isAgg57 sizeOf57 O O O O)<|Drw.z O O O O (X.call Bgq O<|?_); refine Ab (Zj b T p s A cap _ i.ticks (B7 p me s i) A9 c9 _ _ _ _ _ I.up_5 hnt.1 hnt.2 hr9) O ?_; clear I; rintro e w114 ⟨A14, c14, rfl, I⟩; replace I := I.dn5; refine ⟨_, O, ?_⟩; refine Dd<|Wq O<|W.drawn O (by kernel_rfl) (Ctx _ _ (_) (_)) [9, 10] (.op 0 0 (.op 1 0 (.op 2 0 (.op 3 0 (.op 4 0 (.op 5 0 (.op 6 0 (.op 7 0 (.op 8 0 (.op 9 1 (.op 10 1 .nil))))))))))) O (by kernel_rfl) I.drew.ctx<|?_; replace I := I.drew; generalize World.drew _ = wd at I ⊢; refine I.zp O O<|I.zt O O<|I.zf Jv O O<|I.zp O O<|I.zt O O<|I.zf Ah9 O O<|I.zl 5 O O O O<|I.zb O O<|I.z O (Y.loadA 1 isAgg53 sizeOf53 O O O O)<|Drw.z O O O O (X.call Bgx O<|?_); refine Ab (Al2 b T p (Cx p me s i) A14 c14 _ 1 me b7 (Ex p i).lo (Ex p i).hi hbt (Bez _ _ _ _) _ _ _ _ _ I.up_5 (Rds.rowG 0 O)) O ?_; clear I; rintro e w124 ⟨A24, c24, rfl, I⟩; replace I := I.dn5; refine ⟨_, O, ?_⟩; refine Drw.z O O O O (X.storeS I 3 sizeOf103 O O O O O (lZ O) O O fun _ I => Dd<|We O<|⟨_, Ac.cell results116 O (Bd isAgg103 sizeOf103 3 I O O), ?_⟩); exact ⟨A14, c14, A24, c24, _, congrArg (fun q => Ending.returned (.agg (Pq (A51 p (Cx p me s i) 1 me q (Ex p i)) A24 c24).toArray)) hb7, fun r hr => .tail _ (.tail _ hr), Rds.rowG 1 O, Rds.rowG 0 O, (I.dr 5)⟩
      refine Wh O<|I.f Axq O O<|I.yb O (Y.cast (Y.load 4 isAgg4 O O O) (E5 _)) (fun b104 hb104 => Od O<|?_); cases b104
      ·replace hb104 := dF hb104; refine Wu O O<|Wk O<|?_; have hq : B7 p me s i = Ku p me s i := if_neg hb104; exact ⟨(A, cap), trivial, ⟨O, O, O, O, O, O, trivial⟩, by rw [hq, T2]; exact hrS, by rw [hq]; exact I⟩
      ·replace hb104 := dT hb104; refine Wt O O<|Wr O<|I.f Axx O O<|I.y O (Y.load 4 isAgg41 O O O)<|I.f I7 O O<|Ow O (X.storeV I 0 (.slice _ _ _) sizeOf41 O O O O (lZ O) O O fun _ I => Od O<|?_); have hq : B7 p me s i = { Ku p me s i with tab := i.tab } := if_pos hb104; exact ⟨(i.TA, i.tcap), trivial, ⟨O, O, O, O, O, O, trivial⟩, by rw [hq]; exact hrI, by rw [hq]; exact I⟩
     refine Wh O<|I.b O O<|Od O<|?_; cases b97
     ·replace hb97 := dF hb97; refine Wu O O<|Wk O<|?_; rw [e1] at hb97; have hq : Ku p me s i = Xu p s i := if_neg hb97; exact ⟨(), trivial, ⟨O, O, O, O, O, O, trivial⟩, by rw [hq]; exact (I.sub (.cons _ (.cons_cons _ (.cons _ (.cons _ (.cons_cons _ (.cons_cons _ (.cons_cons _ (.cons_cons _ (.cons_cons _ (.refl _)))))))))))⟩
     ·replace hb97 := dT hb97; refine Wt O O<|Wr O<|I.y O (Y.loadA 0 isAgg53 sizeOf53 O O O O)<|I.f Br O O<|Ow O (X.storeS I 1 sizeOf53 O O O O O (lZ O) O O fun _ I => I.f Bt O O<|Ow O (X.storeV I 1 (.int _ _) sizeOf3 O O O O (lZ O) O O fun _ I => I.f Bl O O<|Ow O (X.storeV I 1 (.bool _) sizeOf4 O O O O (lZ O) O O fun _ I => Od O<|?_))); rw [e1] at hb97; have hq : Ku p me s i = { Xu p s i with lo := (Db p.F (Ck p me i)).lo, hi := (Db p.F (Ck p me i)).hi, held := 0, good := true } := if_pos hb97; rw [← e1] at hq; exact ⟨(), trivial, ⟨O, O, O, O, O, O, trivial⟩, by rw [hq]; exact (I.sub (.cons _ (.cons_cons _ (.cons _ (.cons _ (.cons_cons _ (.cons_cons _ (.cons_cons _ (.cons_cons _ (.cons_cons _ (.refl _)))))))))))⟩
    ·replace hb50 := dT hb50; refine Wt O O<|Wk O<|Wq O<|Wb O<|Wq O<|?_; have hk1 : k < (Al p me i.heard).length := by omega
     have hsl := L4 p (Ca p i) ((Al p me i.heard).take k); rw [List.length_take] at hsl; refine Wr O<|I.y O (Y.indexAddr underlying97 sizeOf138 O O ((Rds.sl (Rds.rowL 0 (by rfl)) I).ne (Bi B5 (by decide) (by omega))) (by omega))<|?_; refine I.y O (Y.loadSlA isAgg138 sizeOf138 O (Rds.rowL 0 O) (Bo B5 (Al p me i.heard) k hk1) (B5 _))<|Ow O (X.allocA I zeroValue138 fun p10 w10 I => Ow O (X.storeS I 0 sizeOf138 O O O O O (lZ O) O O fun _ I => Ds O O<|I.f Dg O O<|I.f Vi O O<|I.yb O (Y.cast (Y.load 0 isAgg4 O O O) (E5 _)) (fun b55 hb55 => Od O<|?_))); cases b55
     ·replace hb55 := dF hb55; refine Wu O O<|Wk O<|Wr O<|I.j O O O (by omega)<|I.u O O<|Od O<|?_; have e2 := (Ph p (Ca p i) _ k hk1).trans (if_neg hb55); refine ⟨(k + 1, (A8, c8)), ⟨?_, O, trivial⟩, ⟨O, O, O, O, O, O, O, O, trivial⟩, ⟨by omega, by rw [e2]; exact (I.dr 1)⟩, by dsimp only at *; omega⟩; rw [e2]; rfl
     ·replace hb55 := dT hb55; refine Wt rfl rfl<|Wr rfl<|I.s rfl rfl<|I.y rfl (Y.loadA 4 isAgg23 sizeOf23 rfl rfl rfl rfl)<|I.f Dg rfl rfl<|I.f Gb rfl rfl<|I.y rfl (Y.loadA 0 isAgg53 sizeOf53 rfl rfl rfl rfl)<|I.f Vj rfl rfl<|I.l 0 rfl rfl rfl rfl<|Ow rfl (X.ret Ah2 (Qg p _ _ _ _ _ _ _ _ I ) rfl fun _ I => Ow rfl (X.lit1 I underlying228 sizeOf53 zeroValue53 rfl rfl rfl fun p64 w64 I => Ow rfl (X.app I 3 0 underlying228 N9 rfl rfl rfl rfl rfl rfl rfl rfl (by dsimp only; unfold maxLen; omega) (by dsimp only; omega) fun A65 c65 w65 I => ?_))); refine I.y O (Y.assignS O)<|Od O<|Wr O<|I.j O O O (by omega)<|I.u O O<|Od O<|?_; have e2 := (Ph p (Ca p i) _ k hk1).trans (if_pos hb55); have e3 : (D5 p (Ca p i) ((Al p me i.heard).take k) ++ [Pk p (Al p me i.heard)[k]]).length = (D5 p (Ca p i) ((Al p me i.heard).take k)).length + 1 := by simp
      have e4 : Ae spC (D5 p (Ca p i) ((Al p me i.heard).take k) ++ [Pk p (Al p me i.heard)[k]]) = Ae spC (D5 p (Ca p i) ((Al p me i.heard).take k)) ++ spC (Pk p (Al p me i.heard)[k]) := by rw [Cy]; simp [Ae]
      refine ⟨(k + 1, (A65, c65)), ⟨?_, O, trivial⟩, ⟨O, O, O, O, O, O, O, O, trivial⟩, ⟨by omega, by rw [e2, e3, e4]; exact (I.dr 2)⟩, by dsimp only at *; omega⟩; rw [e2, e3]; rfl
  refine Wh O<|I.b O O<|Od O<|?_; cases b7
  ·replace hb7 := dF hb7; refine Wu O O<|Wr O<|I.y O (Mr O)<|Ow O (X.storeS I 1 sizeOf53 O O O O O (lZ O) O O fun _ I => Od O<|?_); have q1 : Ca p i = [] := if_neg hb7; have q2 : Ex p i = ⟨0, 0⟩ := if_neg hb7; refine ⟨(none, 0), ⟨?_, trivial⟩, ⟨O, O, O, O, O, O, trivial⟩, ?_⟩
   ·rw [q1]; rfl
   ·rw [q1, q2]; exact I
  ·replace hb7 := dT hb7; refine Wt rfl rfl<|Wr rfl<|I.s rfl rfl<|I.y rfl (Y.loadA 1 isAgg53 sizeOf53 rfl rfl rfl rfl)<|Ow rfl (X.lit1 I underlying228 sizeOf53 zeroValue53 rfl rfl rfl fun p37 w37 I => Ow rfl (X.app I 1 0 underlying228 N9 rfl rfl rfl rfl rfl rfl rfl rfl (by unfold maxLen; omega) (by omega) fun A38 c38 w38 I => ?_)); refine I.y O (Y.assignS O)<|Od O<|?_; have q1 : Ca p i = [Aw p i.reading] := if_pos hb7; have q2 : Ex p i = Aw p i.reading := if_pos hb7; refine ⟨(A38, c38), ⟨?_, trivial⟩, ⟨O, O, O, O, O, O, trivial⟩, ?_⟩
   ·rw [q1]; rfl
   ·rw [q1, q2]; exact (I.dr 1)
 refine Wr O<|I.b O O<|I.b O O<|?_; cases b26
 ·replace hb26 := dF hb26; refine On O<|On O<|I.k O O O<|I.g O O<|Od O<|?_; exact ⟨_, ⟨O, trivial⟩, ⟨O, O, O, O, O, trivial⟩, (decide_eq_false (fun h => hb26 h.1)).symm, I⟩
 ·replace hb26 := dT hb26; refine I.f Ax8 O O<|I.yb O (Y.cast (Y.load 3 isAgg4 O O O) (E5 _)) (fun b32 hb32 => I.k O O O<|I.g O O<|Od O<|?_); exact ⟨_, ⟨O, trivial⟩, ⟨O, O, O, O, O, trivial⟩, hb32.trans (decide_eq_decide.2 ⟨fun h => ⟨hb26, h⟩, fun h => h.2⟩), I⟩
end
section
open Tryz Go.RowKit YtaanjifekgfemaaGreat.K YtaanjifekgfemaaGreat.W
def mhC (h : Hd) : List Value := [.int .i64 h.m.kind, .int .i64 h.m.from_, .int .i64 h.m.slo, .int .i64 h.m.shi, .int .i64 h.m.held, .int .i64 h.m.hops, .bool h.m.good, .bool h.m.ref, .int .i64 h.m.elo, .int .i64 h.m.ehi, .int .i64 h.m.pulse, .int .i64 h.m.time, .int .i64 h.m.num, .slice h.A h.m.tab.length h.cap]
theorem Ir (h : Hd) : (mhC h).length = 14 := rfl
def Hd0 : Hd := ⟨M0, none, 0, 0⟩
def Tp (o : Option Hd) : List Value := mhC (o.getD Hd0)
def takes (p : Par) (best : Option Hd) (h : Hd) : Prop := C6 p h.m ∧ match best with | none => True | some b => Vb h.m b.m < 0
instance (p : Par) (best : Option Hd) (h : Hd) : Decidable (takes p best h) := by unfold takes; cases best <;> infer_instance
def H8 (p : Par) (best : Option Hd) (h : Hd) : Option Hd := if takes p best h then some h else best
def B2 (p : Par) (l : List Hd) : Option Hd := l.foldl (H8 p) none
theorem Mx (p : Par) (l : List Hd) (k : Nat) (h : k < l.length) : B2 p (l.take (k + 1)) = H8 p (B2 p (l.take k)) l[k] := by
 unfold B2; rw [List.take_succ_eq_append_getElem h, List.foldl_append]; rfl
theorem Ve {p : Par} {l : List Hd} {h : Hd} (hc : B2 p l = some h) : h ∈ l ∧ C6 p h.m := by
  have : ∀ (l : List Hd) (b : Option Hd), (∀ h, l.foldl (H8 p) b = some h → (h ∈ l ∧ C6 p h.m) ∨ b = some h) := by
    intro l
    induction l with
    | nil => intro b h e; exact .inr e
    | cons x l ih =>
      intro b h e; rcases ih _ _ e with h2 | h2
      · exact .inl ⟨List.mem_cons_of_mem _ h2.1, h2.2⟩
      · unfold H8 at h2; split at h2
        · rename_i ht; injection h2 with h2; subst h2; exact .inl ⟨List.mem_cons_self, ht.1⟩
        · exact .inr h2
  rcases this l none h hc with h2 | h2
  · exact h2
  · cases h2
end
section
open Tryz Go.RowKit YtaanjifekgfemaaGreat.K YtaanjifekgfemaaGreat.W
attribute [local irreducible] Bg Ak Bb sub neg mag Da mul Dy
theorem Bq3 : CF 191 := fun _ _ => by simp [go_sem]
theorem Bq4 : CF 192 := fun _ _ => by simp [go_sem]
theorem Aa9 (p : Par) (l : List Hd) (hl : l.length ≤ 1000000) (A : Option Addr) (cap : Nat) (w0 w : World) (F0 : List Nat) (L G : List Res) (I : St w0 F0 w L G) (hr : Rds L G (.slice A l.length cap) l.length (Ae mhC l)) :
  Calls Tryz.prog 185 #[.agg #[.int .i64 p.N, .int .i64 p.F, .int .i64 p.D, .int .i64 p.Beat, .int .i64 p.Rho, .int .i64 p.Delay, .int .i64 p.Jitter, .int .i64 p.Eps, .int .i64 p.Mu, .int .i64 p.Hold, .int .i64 p.Pulse, .int .i64 p.Second], .slice A l.length cap] w fun e w' => ∃ b, e = .returned (.tuple #[.agg (Tp (B2 p l)).toArray, .bool b]) ∧ b = decide ((B2 p l).isSome = true) ∧ St w0 F0 w' L G := by
 refine W.func func185 O ntmps185 O<|Wh O<|Ow O (X.boxA I O fun p2 w2 I => Ow O (X.allocA I zeroValue103 fun p4 w4 I => I.g O O<|Ds O O<|I.y O (Aa0 O)<|Ow O (X.allocA I zeroValue103 fun p6 w6 I => Ow O (X.storeS I 0 sizeOf103 O O O O O (lZ O) O O fun _ I => I.g O O<|Od O<|Wq O<|Wh O<|I.s O O<|I.y O (Y.lenS underlying90 O)<|I.u O O<|Od O<|Wb O<|?_)))); refine W.loop (γ := Nat × Bool) [(2, .pointer _), (4, .pointer _), (6, .pointer _), (11, .slice _ _ _), (12, .int _ _)] (fun x => [(7, .bool x.2), (13, .int .i64 (x.1 : Int))]) (fun x w => (x.1 ≤ l.length ∧ x.2 = decide ((B2 p (l.take x.1)).isSome = true)) ∧ St w0 F0 w (Aa p6 (Tp (B2 p (l.take x.1))) 103 :: Aa p4 (Tp none) 103 :: Aa p2 (E4 p) 23 :: L) G) (fun x => l.length - x.1) ((0, false)) O ⟨O, O, O, O, O, trivial⟩ ?_ ?_ ?_
 ·exact ⟨O, O, trivial⟩
 ·exact ⟨⟨by omega, O⟩, I⟩
 ·clear I; rintro ⟨k, b7⟩ j w5 ⟨⟨hk, hb7⟩, I⟩; refine Wh O<|I.v O O O (fun b14 hb14 => Od O<|Wq O<|?_); cases b14
  ·replace hb14 := dF hb14; refine Wu O O<|W.exit O<|Wq O<|?_; obtain rfl : k = l.length := by omega
   have e1 : l.take l.length = l := List.take_length; refine Wr O<|I.y O (Y.loadA 0 isAgg103 sizeOf103 O O O O)<|I.b O O<|Ow O (X.storeS I 1 sizeOf103 O O O O O (lZ O) O O fun _ I => I.g O O<|Od O<|We O<|⟨_, Ac.cellTmp results185 O (Bd isAgg103 sizeOf103 1 I O O) O, ?_⟩); exact ⟨b7, congrArg (fun q => Ending.returned (.tuple #[.agg (Tp (B2 p q)).toArray, .bool b7])) e1, hb7.trans (congrArg (fun q => decide ((B2 p q).isSome = true)) e1), (I.dr 3)⟩
  ·replace hb14 := dT hb14; refine Wt O O<|Wk O<|Wq O<|Wb O<|Wq O<|?_; have hk1 : k < l.length := by omega
   refine Wr O<|I.y O (Y.indexAddr underlying90 sizeOf103 O O ((Rds.sl (((hr.cons _).cons _).cons _) I).ne (Bi Ir (by decide) (by omega))) (by omega))<|?_; refine I.y O (Y.loadSlA isAgg103 sizeOf103 O (((hr.cons _).cons _).cons _) (Bo Ir l k hk1) (Ir _))<|Ow O (X.allocA I zeroValue103 fun p9 w9 I => Ow O (X.storeS I 0 sizeOf103 O O O O O (lZ O) O O fun _ I => Od O<|Wq O<|?_)); refine W.cut [(2, .pointer _), (4, .pointer _), (6, .pointer _), (7, .bool _), (9, .pointer _), (11, .slice _ _ _), (12, .int _ _), (13, .int _ _)] (fun x : Bool => [(29, .bool x)]) (fun x w => x = decide (takes p (B2 p (l.take k)) l[k]) ∧ St w0 F0 w (Aa p9 (mhC l[k]) 103 :: Aa p6 (Tp (B2 p (l.take k))) 103 :: Aa p4 (Tp none) 103 :: Aa p2 (E4 p) 23 :: L) G) ⟨O, O, O, O, O, O, O, O, trivial⟩ ?_ ?_
   rotate_left
   ·clear I; rintro b29 j w7 ⟨hb29, I⟩; cases b29
    ·replace hb29 := dF hb29; refine Wu O O<|Wk O<|Wr O<|I.j O O O (by omega)<|I.u O O<|Od O<|?_; have e2 := (Mx p l k hk1).trans (if_neg hb29); exact ⟨(k + 1, b7), ⟨O, O, trivial⟩, ⟨O, O, O, O, O, trivial⟩, ⟨⟨by omega, by rw [e2]; exact hb7⟩, by rw [e2]; exact (I.dr 1)⟩, by dsimp only at *; omega⟩
    ·replace hb29 := dT hb29; refine Wt O O<|Wr O<|I.y O (Y.loadA 0 isAgg103 sizeOf103 O O O O)<|Ow O (X.storeS I 1 sizeOf103 O O O O O (lZ O) O O fun _ I => I.g O O<|Od O<|Wr O<|I.j O O O (by omega)<|I.u O O<|Od O<|?_); have e2 := (Mx p l k hk1).trans (if_pos hb29); exact ⟨(k + 1, true), ⟨O, O, trivial⟩, ⟨O, O, O, O, O, trivial⟩, ⟨⟨by omega, by rw [e2]; rfl⟩, by rw [e2]; exact (I.dr 1)⟩, by dsimp only at *; omega⟩
   refine Wr O<|I.y O (Y.loadA 3 isAgg23 sizeOf23 O O O O)<|I.y O (Y.loadA 0 isAgg103 sizeOf103 O O O O)<|Ow O (X.retB Bq3 (Ag2 p l[k].m _ _ _ _ _ _ _ I) O fun b19 w19 hb19 I => I.b O O<|?_); cases b19
   ·replace hb19 := dF hb19; refine On O<|On O<|On O<|On O<|On O<|On O<|On O<|On O<|I.k O O O<|Od O<|?_; exact ⟨_, ⟨O, trivial⟩, ⟨O, O, O, O, O, O, O, O, trivial⟩, (decide_eq_false (fun h => hb19 h.1)).symm, I⟩
   ·replace hb19 := dT hb19; refine I.b O O ?_; cases b7
    ·replace hb7 := dF hb7; refine I.q O O<|I.b O O<|On O<|On O<|On O<|On O<|I.k O O O<|I.k O O O<|Od O<|?_; have hn : B2 p (l.take k) = none := by cases hc : B2 p (l.take k) with | none => rfl | some z => rw [hc] at hb7; exact absurd O hb7
     exact ⟨_, ⟨O, trivial⟩, ⟨O, O, O, O, O, O, O, O, trivial⟩, (decide_eq_true ⟨hb19, by rw [hn]; trivial⟩).symm, I⟩
    ·replace hb7 := dT hb7; refine I.q O O<|I.b O O<|?_; obtain ⟨bb, hbb⟩ := Option.isSome_iff_exists.1 hb7; have hst1 := I; rw [hbb] at I; refine I.y O (Y.loadA 0 isAgg103 sizeOf103 O O O O)<|I.y O (Y.loadA 1 isAgg103 sizeOf103 O O O O)<|Ow O (X.ret Bq4 (Aa4 l[k].m bb.m _ _ _ _ _ _ _ _ _ I) O fun _ I => I.v O O O (fun b27 hb27 => I.k O O O<|I.k O O O<|Od O<|?_)); exact ⟨_, ⟨O, trivial⟩, ⟨O, O, O, O, O, O, O, O, trivial⟩, hb27.trans (decide_eq_decide.2 ⟨fun h => ⟨hb19, by rw [hbb]; exact h⟩, fun h => by have := h.2; rw [hbb] at this; exact this⟩), by rw [hbb]; exact I⟩
end
end Go.Proofs.YtaanjifekgfemaaGreat.Cl
section
namespace Go.Proofs.YtaanjifekgfemaaGreat.K
open Tryz
open Go.RowKit
structure Ent (κ ν : Type) where
  key : κ
  val : ν
  born : Nat
section
variable {κ ν : Type} [DecidableEq κ]
def Fj (ek : κ → Value) (ev : ν → Value) (x : Ent κ ν) : MapEntry := ⟨ek x.key, ev x.val, x.born⟩
def C9 (ek : κ → Value) (ev : ν → Value) (b : Nat) (es : List (Ent κ ν)) (clock : Nat) : Res where
  fp := [b]
  holds w := w.heap[b]? = some (.map (es.map (Fj ek ev)).toArray clock) ∧ (∀ x ∈ es, x.born < clock) ∧ (es.map (·.born)).Nodup
  loc w w' h := by rintro ⟨h1, h2⟩; exact ⟨by rw [h b (by simp)]; exact h1, h2⟩
def Cb (k : κ) : List (Ent κ ν) → Option ν
  | [] => none
  | e :: es => if k = e.key then some e.val else Cb k es
def Ki (k : κ) (v : ν) : List (Ent κ ν) → List (Ent κ ν)
  | [] => []
  | e :: es => if k = e.key then ⟨e.key, v, e.born⟩ :: es else e :: Ki k v es
def Kh (k : κ) : List (Ent κ ν) → List (Ent κ ν)
  | [] => []
  | e :: es => if k = e.key then es else e :: Kh k es
def H5 (k : κ) (v : ν) (clock : Nat) (es : List (Ent κ ν)) : List (Ent κ ν) := match Cb k es with
  | some _ => Ki k v es
  | none => es ++ [⟨k, v, clock⟩]
def Hu (k : κ) (clock : Nat) (es : List (Ent κ ν)) : Nat := match Cb k es with
  | some _ => clock
  | none => clock + 1
theorem Us (k : κ) (v : ν) (es : List (Ent κ ν)) : (Ki k v es).map (·.born) = es.map (·.born) := by
 induction es with
 | nil => rfl
 | cons e es ih => unfold Ki; split <;> simp [ih]
theorem Xo (k : κ) (es : List (Ent κ ν)) : (Kh k es).Sublist es := by
  induction es with
  | nil => exact .refl _
  | cons e es ih =>
    unfold Kh; split
    · exact List.sublist_cons_self _ _
    · exact ih.cons_cons _
def Kw (k : κ) (i : Nat) : List (Ent κ ν) → Option (Nat × ν)
  | [] => none
  | e :: es => if k = e.key then some (i, e.val) else Kw k (i + 1) es
theorem Rn (k : κ) (i : Nat) (es : List (Ent κ ν)) : (Kw k i es).map (·.2) = Cb k es := by
 induction es generalizing i with
 | nil => rfl
 | cons e es ih => unfold Kw Cb; split <;> simp [ih]
theorem X5 (k : κ) (i n : Nat) (v v0 : ν) (es : List (Ent κ ν)) (h : Kw k i es = some (n, v0)) (ek : κ → Value) (ev : ν → Value) (kk : Value) (hk : kk = ek k) :
    i ≤ n ∧ n - i < es.length ∧ (es.map (Fj ek ev)).toArray.modify (n - i) (fun e => { e with key := kk, val := ev v }) = ((Ki k v es).map (Fj ek ev)).toArray ∧ ((es.map (Fj ek ev)).toArray.eraseIdxIfInBounds (n - i)) = ((Kh k es).map (Fj ek ev)).toArray ∧ ((es.map (Fj ek ev)).toArray[n - i]?).map (·.key) = some (ek k) := by
  induction es generalizing i with
  | nil => cases h
  | cons e es ih =>
    unfold Kw at h
    by_cases hk2 : k = e.key
    · rw [if_pos hk2] at h; injection h with h; injection h with h1 h2; subst h1; subst hk; refine ⟨Nat.le_refl _, by simp, ?_, ?_, ?_⟩
      · unfold Ki; rw [if_pos hk2]; subst hk2; rw [← Array.toList_inj, Array.toList_modify]; simp [Fj]
      · unfold Kh; rw [if_pos hk2]; simp [Array.eraseIdxIfInBounds]
      · simp [Fj, hk2]
    · rw [if_neg hk2] at h; obtain ⟨h1, h2, h3, h4, h5⟩ := ih (i + 1) h; obtain ⟨m, rfl⟩ : ∃ m, n = i + 1 + m := ⟨n - (i + 1), by omega⟩; have e1 : i + 1 + m - (i + 1) = m := by omega
      have e2 : i + 1 + m - i = m + 1 := by omega
      rw [e1] at h2 h3 h4 h5; rw [e2]; refine ⟨by omega, by simp; omega, ?_, ?_, ?_⟩
      · unfold Ki; rw [if_neg hk2]; simp only [List.map_cons]; rw [← Array.toList_inj] at h3 ⊢; simp only [Array.toList_modify, List.modify_succ_cons] at h3 ⊢; rw [h3]
      · unfold Kh; rw [if_neg hk2]; simp only [List.map_cons]; rw [← Array.toList_inj] at h4 ⊢; simp only [Array.toList_eraseIdxIfInBounds] at h4 ⊢; rw [List.eraseIdx_cons_succ, h4]
      · simpa using h5
end
end Go.Proofs.YtaanjifekgfemaaGreat.K
namespace Go.Proofs.YtaanjifekgfemaaGreat.K
open Tryz
open Go.RowKit Go.MapKept Go.ChangeMaps
section
variable {κ ν : Type} [DecidableEq κ] {ek : κ → Value} {ev : ν → Value}
def W5 (P : Program) (kt : TypeId) (ek : κ → Value) : Prop := ∃ d, P.underlying kt = some d ∧ (∀ k, IsKey d (ek k)) ∧ ∀ a b, Instr.sameNow d (ek a) (ek b) = some (decide (a = b))
theorem Ij {d : TypeDesc} (h : ∀ a b : κ, Instr.sameNow d (ek a) (ek b) = some (decide (a = b))) (k : κ) (es : List (Ent κ ν)) (i : Nat) : Instr.findNow d (ek k) (es.map (Fj ek ev)) i = some ((Kw k i es).map fun p => (p.1, ev p.2)) := by
  induction es generalizing i with
  | nil => rfl
  | cons e es ih =>
    simp only [List.map_cons, Instr.findNow]; have hs : Instr.sameNow d (ek k) (Fj ek ev e).key = some (decide (k = e.key)) := h k e.key; rw [hs]; unfold Kw
    by_cases hk : k = e.key
    · rw [if_pos hk]; simp [hk, Fj]
    · rw [if_neg hk]; simp [hk, ih]
variable {P : Program} {n : Fr} {c : Code} {Q : Ez} {ρ : Env} {w0 w : World} {F0 : List Nat} {L G : List Res} {S : World → Prop} {ty t kt et : TypeId} {x y z : Operand}
theorem Ctx.res {r : Res} (h : Ctx w0 F0 L G w) (hr : r ∈ L ∨ r ∈ G) : r.holds w := by
 obtain ⟨L', G', h⟩ := h; rcases hr with hr | hr
 ·exact h.res r (List.mem_append.2 (.inr hr))
 ·exact (h.fact r (List.mem_append.2 (.inr hr))).1
theorem Ad7 (K : W5 P kt ek) (ht : P.underlying t = some (.map kt et)) {zv : Value} (hz : ∀ w, (zeroValue et).run P w = .ok zv w) {b : Nat} {es : List (Ent κ ν)} {clock : Nat} (h : (C9 ek ev b es clock).holds w) (k : κ) :
    (Instr.lookup t (.map (some b)) (ek k) true).run P w = .ok (.tuple #[((Cb k es).map ev).getD zv, .bool (Cb k es).isSome]) w := by
  obtain ⟨d, hd, hkey, hsame⟩ := K; have hf : (Instr.findKey kt (ek k) ((es.map (Fj ek ev)).toArray).toList).run P w = .ok ((Kw k 0 es).map fun p => (p.1, ev p.2)) w := run_findKey hd (Ij hsame k es 0); have hg := Rn k 0 es; simp only [Instr.lookup, run_underlying ht, MapKept.run_getObj_map h.1, run_checkKey hd (hkey k), Sem.run_bind, Result.andThen, hf, Sem.run_pure]
  cases hi : Kw k 0 es with
  | none =>
    rw [hi] at hg; simp [← hg, hz, Result.andThen]
  | some p =>
    rw [hi] at hg; simp [← hg, Result.andThen]
theorem Y.lookup (K : W5 P kt ek) (ht : P.underlying t = some (.map kt et)) {z0 : ν} (hz : ∀ w, (zeroValue et).run P w = .ok (ev z0) w) (j : Nat) {b : Nat} (hx : Go.Proofs.YtaanjifekgfemaaGreat.K.ev ρ x = .map (some b)) {es : List (Ent κ ν)} {clock : Nat} (hL : L[j]? = some (C9 ek ev b es clock)) {k : κ} (hk : Go.Proofs.YtaanjifekgfemaaGreat.K.ev ρ y = ek k) :
  Y P (Ctx w0 F0 L G) ρ (.lookup t x y true) ty (.tuple #[ev ((Cb k es).getD z0), .bool (Cb k es).isSome]) := fun w hw o ho _ => by
 have h := Ad7 (w := w) K ht hz (hw.res (.inl (List.mem_of_getElem? hL))) k; have e : ((Cb k es).map ev).getD (ev z0) = ev ((Cb k es).getD z0) := by cases Cb k es <;> rfl
 rw [e] at h; simp [execOp, ho, hx, hk, h]
theorem Yk (K : W5 P kt ek) (ht : P.underlying t = some (.map kt et)) {zv : Value} (hz : ∀ w, (zeroValue et).run P w = .ok zv w) {b : Nat} {es : List (Ent κ ν)} {clock : Nat} (h : (C9 ek ev b es clock).holds w) (k : κ) :
    (Instr.lookup t (.map (some b)) (ek k) false).run P w = .ok (((Cb k es).map ev).getD zv) w := by
  obtain ⟨d, hd, hkey, hsame⟩ := K; have hf : (Instr.findKey kt (ek k) ((es.map (Fj ek ev)).toArray).toList).run P w = .ok ((Kw k 0 es).map fun p => (p.1, ev p.2)) w := run_findKey hd (Ij hsame k es 0); have hg := Rn k 0 es; simp only [Instr.lookup, run_underlying ht, MapKept.run_getObj_map h.1, run_checkKey hd (hkey k), Sem.run_bind, Result.andThen, hf, Sem.run_pure]
  cases hi : Kw k 0 es with
  | none =>
    rw [hi] at hg; simp [← hg, hz, Result.andThen]
  | some p =>
    rw [hi] at hg; simp [← hg, Result.andThen]
theorem Y.lookupV (K : W5 P kt ek) (ht : P.underlying t = some (.map kt et)) {z0 : ν} (hz : ∀ w, (zeroValue et).run P w = .ok (ev z0) w) (j : Nat) {b : Nat} (hx : Go.Proofs.YtaanjifekgfemaaGreat.K.ev ρ x = .map (some b)) {es : List (Ent κ ν)} {clock : Nat} (hL : L[j]? = some (C9 ek ev b es clock)) {k : κ} (hk : Go.Proofs.YtaanjifekgfemaaGreat.K.ev ρ y = ek k) :
  Y P (Ctx w0 F0 L G) ρ (.lookup t x y false) ty (ev ((Cb k es).getD z0)) := fun w hw o ho _ => by
 have h := Yk (w := w) K ht hz (hw.res (.inl (List.mem_of_getElem? hL))) k; have e : ((Cb k es).map ev).getD (ev z0) = ev ((Cb k es).getD z0) := by cases Cb k es <;> rfl
 rw [e] at h; simp [execOp, ho, hx, hk, h]
theorem Bdx (k : κ) (v : ν) (clock : Nat) (es : List (Ent κ ν)) (h1 : ∀ x ∈ es, x.born < clock) (h2 : (es.map (·.born)).Nodup) : (∀ x ∈ H5 k v clock es, x.born < Hu k clock es) ∧ ((H5 k v clock es).map (·.born)).Nodup := by
  unfold H5 Hu
  cases hg : Cb k es with
  | some v0 =>
    dsimp only; refine ⟨fun x hx => ?_, by rw [Us]; exact h2⟩; have hb : x.born ∈ (Ki k v es).map (·.born) := List.mem_map_of_mem hx; rw [Us] at hb; obtain ⟨y, hy, e⟩ := List.mem_map.1 hb; have := h1 y hy; omega
  | none =>
    dsimp only; refine ⟨fun x hx => ?_, ?_⟩
    · rcases List.mem_append.1 hx with hx | hx
      · have := h1 x hx; omega
      · rw [List.mem_singleton] at hx; subst hx; show clock < clock + 1; omega
    · rw [List.map_append, List.nodup_append]; refine ⟨h2, by simp, fun a ha b hb => ?_⟩; simp only [List.map_cons, List.map_nil, List.mem_singleton] at hb; obtain ⟨y, hy, rfl⟩ := List.mem_map.1 ha; have := h1 y hy; omega
theorem St.setMap {b : Nat} {o : Obj} {r r' : Res} {o0 : Obj} (h : St w0 F0 w L G) {j : Nat} (hL : L[j]? = some r) (hf : r.fp = [b]) (hf' : r'.fp = [b]) (hb : w.heap[b]? = some o0)
  (hr : r'.holds { w with heap := w.heap.setIfInBounds b o }) : St w0 F0 { w with heap := w.heap.setIfInBounds b o } (L.set j r') G := by
 have hj : j < L.length := by
  rcases Nat.lt_or_ge j L.length with h | h
  ·exact h
  ·rw [List.getElem?_eq_none h] at hL; cases hL
 have e1 : L = L.take j ++ r :: L.drop (j + 1) := by
  rw [List.getElem?_eq_getElem hj] at hL; injection hL with hL; rw [← hL]; simp
 have e2 : L.set j r' = L.take j ++ r' :: L.drop (j + 1) := by rw [List.set_eq_take_append_cons_drop, if_pos hj]
 have h2 : St w0 F0 w ([r] ++ (L.take j ++ L.drop (j + 1))) G := by
  rw [e1] at h; exact h.perm List.perm_middle
 have h3 : St w0 F0 { w with heap := w.heap.setIfInBounds b o } ([r'] ++ (L.take j ++ L.drop (j + 1))) G := by
  refine St.step (L1 := [r]) (L2 := [r']) h2 rfl rfl rfl (by simp) (fun k hk hn => ?_) (fun k hk => .inl ?_) (by simp [hf']) (by simpa using hr)
  ·have : k ≠ b := fun e => hn (by simp [hf, e]); simp [Array.getElem?_setIfInBounds, Ne.symm this]
  ·simpa [hf, hf'] using hk
 rw [e2]; exact h3.perm (List.perm_middle (l₁ := L.take j) (l₂ := L.drop (j + 1)) (a := r')).symm
theorem X.mapUpd (K : W5 P kt ek) (ht : P.underlying t = some (.map kt et)) (I : St w0 F0 w L G) (j : Nat) {b : Nat} (hx : Go.Proofs.YtaanjifekgfemaaGreat.K.ev ρ x = .map (some b)) {es : List (Ent κ ν)} {clock : Nat} (hL : L[j]? = some (C9 ek ev b es clock)) {k : κ} (hk : Go.Proofs.YtaanjifekgfemaaGreat.K.ev ρ y = ek k) {v : ν} (hv : Go.Proofs.YtaanjifekgfemaaGreat.K.ev ρ z = ev v) {C : Value → World → Prop}
    (kk : ∀ w', St w0 F0 w' (L.set j (C9 ek ev b (H5 k v clock es) (Hu k clock es))) G → C undef w') : X P ρ w (.mapUpdate t x y z) ty C := by
  have hR := I.res _ (List.mem_of_getElem? hL); obtain ⟨d, hd, hkey, hsame⟩ := K; have hf : (Instr.findKey kt (ek k) ((es.map (Fj ek ev)).toArray).toList).run P w = .ok ((Kw k 0 es).map fun p => (p.1, ev p.2)) w := run_findKey hd (Ij hsame k es 0); have hg := Rn k 0 es; have hok := Bdx k v clock es hR.2.1 hR.2.2
  have key : ∃ w', (Instr.mapUpdate t (.map (some b)) (ek k) (ev v)).run P w = .ok () w' ∧ St w0 F0 w' (L.set j (C9 ek ev b (H5 k v clock es) (Hu k clock es))) G := by
    simp only [Instr.mapUpdate, run_underlying ht, MapKept.run_getObj_map hR.1, run_checkKey hd (hkey k), Sem.run_bind, Result.andThen, hf]
    cases hi : Kw k 0 es with
    | none =>
      rw [hi] at hg; simp only [Option.map_none] at hg ⊢; rw [run_setObj_map _ hR.1]; refine ⟨_, O, I.setMap hL O O hR.1 ⟨?_, hok⟩⟩; have hlt := (Array.getElem?_eq_some_iff.1 hR.1).1; simp [Array.getElem?_setIfInBounds, hlt, H5, Hu, ← hg, Fj]
    | some p =>
      rw [hi] at hg; simp only [Option.map_some] at hg ⊢; obtain ⟨h1, h2, h3, h4, h5⟩ := X5 k 0 p.1 v p.2 es hi ek ev (ek k) rfl; rw [Nat.sub_zero] at h3 h5; simp only [h5, Option.getD_some, Sem.run_bind, run_keyThatStays (hkey k), Result.andThen]; rw [run_setObj_map _ hR.1]; refine ⟨_, O, I.setMap hL O O hR.1 ⟨?_, hok⟩⟩; have hlt := (Array.getElem?_eq_some_iff.1 hR.1).1; simp [Array.getElem?_setIfInBounds, hlt, H5, Hu, ← hg, h3]
  obtain ⟨w', hr, h⟩ := key; intro a ops Q o ho _ ha hw; refine S5 hw (w' := w') ?_ ⟨_, O, kk w' h⟩; rw [ha]; simp [execOp, ho, hx, hk, hv, hr]
theorem X.makeMap (I : St w0 F0 w L G) (ek : κ → Value) (ev : ν → Value) {C : Value → World → Prop} (kk : ∀ b w', St w0 F0 w' (C9 ek ev b [] 0 :: L) G → C (.map (some b)) w') : X P ρ w (.makeMap t none) ty C := by
 intro a ops Q o ho _ ha hw; refine wpl hw (v := .map (some w.heap.size)) (w' := w.alloc (.map #[] 0)) ?_ ⟨_, O, kk _ _ (I.alloc _ (C9 ek ev w.heap.size [] 0) O ⟨?_, by simp, by simp⟩)⟩
 ·rw [ha]; simp [execOp, ho, Instr.makeMap]
 ·exact heap_alloc_new w _
theorem Y.lenM {kt et : TypeId} (ht : P.underlying t = some (.map kt et)) (j : Nat) {b : Nat} (hx : Go.Proofs.YtaanjifekgfemaaGreat.K.ev ρ x = .map (some b)) {es : List (Ent κ ν)} {clock : Nat} (hL : L[j]? = some (C9 ek ev b es clock)) :
  Y P (Ctx w0 F0 L G) ρ (.call { callee := .builtin .len, args := #[x], argTypes := #[t] }) ty (.int .i64 (es.length : Int)) := fun w hw o ho _ => by
 have h := (hw.res (.inl (List.mem_of_getElem? hL))).1; simp [execOp, ho, resolve, invoke, builtin, hx, Builtin.len_, run_underlying ht, MapKept.run_getObj_map h, goInt]
theorem Baq (k : κ) (clock : Nat) (es : List (Ent κ ν)) (h1 : ∀ x ∈ es, x.born < clock) (h2 : (es.map (·.born)).Nodup) : (∀ x ∈ Kh k es, x.born < clock) ∧ ((Kh k es).map (·.born)).Nodup :=
 ⟨fun x hx => h1 x ((Xo k es).mem hx), ((Xo k es).map _).nodup h2⟩
theorem X.mapDel (K : W5 P kt ek) (ht : P.underlying t = some (.map kt et)) (I : St w0 F0 w L G) (j : Nat) {b : Nat} (hx : Go.Proofs.YtaanjifekgfemaaGreat.K.ev ρ x = .map (some b)) {es : List (Ent κ ν)} {clock : Nat} (hL : L[j]? = some (C9 ek ev b es clock)) {k : κ} (hk : Go.Proofs.YtaanjifekgfemaaGreat.K.ev ρ y = ek k) {t' : TypeId} {C : Value → World → Prop}
    (kk : ∀ w', St w0 F0 w' (L.set j (C9 ek ev b (Kh k es) clock)) G → C (.tuple #[]) w') : X P ρ w (.call { callee := .builtin .delete, args := #[x, y], argTypes := #[t, t'] }) ty C := by
  have hR := I.res _ (List.mem_of_getElem? hL); obtain ⟨d, hd, hkey, hsame⟩ := K; have hf : (Instr.findKey kt (ek k) ((es.map (Fj ek ev)).toArray).toList).run P w = .ok ((Kw k 0 es).map fun p => (p.1, ev p.2)) w := run_findKey hd (Ij hsame k es 0); have hok := Baq k clock es hR.2.1 hR.2.2
  have key : ∃ w', (Builtin.delete_ #[t, t'] ty #[.map (some b), ek k]).run P w = .ok (.tuple #[]) w' ∧ St w0 F0 w' (L.set j (C9 ek ev b (Kh k es) clock)) G := by
    have hlt := (Array.getElem?_eq_some_iff.1 hR.1).1
    cases hi : Kw k 0 es with
    | none =>
      rw [hi] at hf
      have hdel : Kh k es = es := by
        clear hf hR hok hL
        have : ∀ (es : List (Ent κ ν)) (i : Nat), Kw k i es = none → Kh k es = es := by
          intro es
          induction es with
          | nil => intro _ _; rfl
          | cons e es ih =>
            intro i hi; unfold Kw at hi; unfold Kh; split at hi
            · cases hi
            · rename_i hne; rw [if_neg hne, ih _ hi]
        exact this es 0 hi
      refine ⟨{ w with heap := w.heap.setIfInBounds b (.map (es.map (Fj ek ev)).toArray clock) }, ?_, I.setMap hL O O hR.1 ⟨?_, hok⟩⟩
      · simp [Builtin.delete_, run_underlying ht, MapKept.run_getObj_map hR.1, run_checkKey hd (hkey k), Result.andThen, hf, run_setObj_map _ hR.1]
      · simp [Array.getElem?_setIfInBounds, hlt, hdel]
    | some p =>
      rw [hi] at hf; obtain ⟨h1, h2, h3, h4, h5⟩ := X5 k 0 p.1 p.2 p.2 es hi ek ev (ek k) rfl; rw [Nat.sub_zero] at h4; refine ⟨{ w with heap := w.heap.setIfInBounds b (.map ((es.map (Fj ek ev)).toArray.eraseIdxIfInBounds p.1) clock) }, ?_, I.setMap hL O O hR.1 ⟨?_, hok⟩⟩
      · simp [Builtin.delete_, run_underlying ht, MapKept.run_getObj_map hR.1, run_checkKey hd (hkey k), Result.andThen, hf, run_setObj_map _ hR.1]
      · simp [Array.getElem?_setIfInBounds, hlt, h4]
  obtain ⟨w', hr, h⟩ := key; intro a ops Q o ho hty ha hw; refine wpl hw (v := .tuple #[]) (w' := w') ?_ ⟨_, O, kk w' h⟩; rw [ha]; simp [execOp, ho, resolve, invoke, builtin, hx, hk, hty, hr]
def Lv (r m since : Nat) (Aw : List Nat) (c0 : Nat) : Res where
  fp := [r]
  holds w := w.heap[r]? = some (.mapIter (some m) since Aw.toArray c0)
  loc w w' h := fun h1 => by rw [h r (by simp)]; exact h1
theorem X.range {kt et : TypeId} (ht : P.underlying t = some (.map kt et)) (I : St w0 F0 w L G) (j : Nat) {b : Nat} (hx : Go.Proofs.YtaanjifekgfemaaGreat.K.ev ρ x = .map (some b)) {es : List (Ent κ ν)} {clock : Nat} (hL : L[j]? = some (C9 ek ev b es clock)) {C : Value → World → Prop}
  (kk : ∀ r w', St w0 F0 w' (Lv r b clock [] clock :: L) G → C (.pointer (some ⟨r, 0, none⟩)) w') : X P ρ w (.range t x) ty C := by
 have h := (I.res _ (List.mem_of_getElem? hL)).1; intro a ops Q o ho _ ha hw; refine wpl hw (v := .pointer (some ⟨w.heap.size, 0, none⟩)) (w' := w.alloc (.mapIter (some b) clock #[] clock)) ?_ ⟨_, O, kk _ _ (I.alloc _ (Lv w.heap.size b clock [] clock) O (heap_alloc_new w _))⟩; rw [ha]; simp [execOp, ho, hx, Instr.range, run_underlying ht, MapKept.run_getObj_map h]
theorem X.next (I : St w0 F0 w L G) (i j : Nat) {r b since c0 : Nat} {Aw : List Nat} (hx : Go.Proofs.YtaanjifekgfemaaGreat.K.ev ρ x = .pointer (some ⟨r, 0, none⟩)) (hI : L[i]? = some (Lv r b since Aw c0)) {es : List (Ent κ ν)} {clock : Nat} (hL : L[j]? = some (C9 ek ev b es clock)) (h1 : clock ≤ since) (h2 : since ≤ c0) {C : Value → World → Prop}
  (k0 : (∀ e ∈ es, e.born ∈ Aw) → ∀ w', St w0 F0 w' L G → C (.tuple #[.bool false]) w')
  (k1 : ∀ e ∈ es, e.born ∉ Aw → ∀ w', St w0 F0 w' (L.set i (Lv r b since (Aw ++ [e.born]) clock)) G → C (.tuple #[.bool true, ek e.key, ev e.val]) w') : X P ρ w (.next x false) ty C := by
 have hR := I.res _ (List.mem_of_getElem? hL); have hr : w.heap[r]? = some (.mapIter (some b) since Aw.toArray c0) := I.res _ (List.mem_of_getElem? hI)
 have hold : ∀ e ∈ ((es.map (Fj ek ev)).toArray).toList, e.born < since := by
  intro e he; simp only [List.mem_map] at he; obtain ⟨y, hy, rfl⟩ := he; have := hR.2.1 y hy; show y.born < since; omega
 intro a ops Q o ho hty ha hw; rcases run_next_at (P := P) w ty r b since c0 Aw.toArray (es.map (Fj ek ev)).toArray clock hr hR.1 hold h2 with ⟨h0, hrun⟩ | ⟨e, he, w1, hw1, hrun⟩
 ·refine wpl hw (v := .tuple #[.bool false]) (w' := w) ?_ ⟨_, O, k0 (fun y hy => ?_) w I⟩
  ·rw [ha]; simp [execOp, ho, hx, hty, hrun]
  ·rcases Decidable.em (y.born ∈ Aw) with h | h
   ·exact h
   ·exfalso
    have hm : Fj ek ev y ∈ (leftOf (es.map (Fj ek ev)).toArray Aw.toArray).toList := by
     unfold leftOf; simp only [Array.toList_filter, List.mem_filter]; exact ⟨List.mem_map_of_mem hy, by simpa [Fj] using h⟩
    rw [Array.size_eq_zero_iff.1 h0] at hm; cases hm
 ·have hm : e ∈ ((es.map (Fj ek ev)).toArray).toList ∧ e.born ∉ Aw := by
   unfold leftOf at he; simp only [Array.toList_filter, List.mem_filter] at he; exact ⟨he.1, by simpa using he.2⟩
  simp only [List.mem_map] at hm; obtain ⟨⟨y, hy, rfl⟩, hns⟩ := hm; have hst1 : St w0 F0 w1 L G := by rcases hw1 with rfl | rfl; exact I; exact I.drew
  have hr1 : w1.heap[r]? = some (.mapIter (some b) since Aw.toArray c0) := hst1.res _ (List.mem_of_getElem? hI); refine wpl hw (v := .tuple #[.bool true, ek y.key, ev y.val]) (w' := setBlock w1 r (.mapIter (some b) since (Aw.toArray.push y.born) clock)) ?_ ⟨_, O, k1 y hy hns _ ?_⟩
  ·rw [ha]; simp [execOp, ho, hx, hty, hrun, Fj]
  ·refine hst1.setMap (r' := Lv r b since (Aw ++ [y.born]) clock) (o := .mapIter (some b) since (Aw.toArray.push y.born) clock) hI O O hr1 ?_; have hlt := (Array.getElem?_eq_some_iff.1 hr1).1; show (w1.heap.setIfInBounds r _)[r]? = _; simp [Array.getElem?_setIfInBounds, hlt]
def Bl7 (L : List Res) (i r b since clock : Nat) (Aw : List Nat) : Option (Ent κ ν) → List Res
  | none => L
  | some e => L.set i (Lv r b since (Aw ++ [e.born]) clock)
def Bl9 (ek : κ → Value) (ev : ν → Value) : Option (Ent κ ν) → Value
  | none => .tuple #[.bool false]
  | some e => .tuple #[.bool true, ek e.key, ev e.val]
def Bl8 (es : List (Ent κ ν)) (Aw : List Nat) : Option (Ent κ ν) → Prop
  | none => ∀ e ∈ es, e.born ∈ Aw
  | some e => e ∈ es ∧ e.born ∉ Aw
theorem X.nextO (I : St w0 F0 w L G) (i j : Nat) {r b since c0 : Nat} {Aw : List Nat} (hx : Go.Proofs.YtaanjifekgfemaaGreat.K.ev ρ x = .pointer (some ⟨r, 0, none⟩)) (hI : L[i]? = some (Lv r b since Aw c0)) {es : List (Ent κ ν)} {clock : Nat} (hL : L[j]? = some (C9 ek ev b es clock)) (h1 : clock ≤ since) (h2 : since ≤ c0) {C : Value → World → Prop}
  (k : ∀ (o : Option (Ent κ ν)) w', Bl8 es Aw o → St w0 F0 w' (Bl7 L i r b since clock Aw o) G → C (Bl9 ek ev o) w') : X P ρ w (.next x false) ty C :=
 X.next I i j hx hI hL h1 h2 (fun h w' I => k none w' h I) (fun e he hn w' I => k (some e) w' ⟨he, hn⟩ I)
theorem Y.entry (i j : Nat) {r b since clock : Nat} {Aw : List Nat} (hx : Go.Proofs.YtaanjifekgfemaaGreat.K.ev ρ x = .pointer (some ⟨r, 0, none⟩)) {es : List (Ent κ ν)} {e : Ent κ ν} (hI : L[i]? = some (Lv r b since (Aw ++ [e.born]) clock)) (hL : L[j]? = some (C9 ek ev b es clock)) (he : e ∈ es) :
  Y P (Ctx w0 F0 L G) ρ (.entry x) ty (.tuple #[ek e.key, ev e.val]) := fun w hw o ho _ => by
 have hR := hw.res (.inl (List.mem_of_getElem? hL)); have hr : w.heap[r]? = some (.mapIter (some b) since (Aw ++ [e.born]).toArray clock) := hw.res (.inl (List.mem_of_getElem? hI)); have h := run_entry_at (P := P) w r b since Aw.toArray (es.map (Fj ek ev)).toArray clock (Fj ek ev e) (by simpa [Fj] using hr) hR.1 (by simpa using List.mem_map_of_mem he) (by simpa [Fj, Function.comp_def] using hR.2.2); simp [execOp, ho, hx, h, Fj]
end
end Go.Proofs.YtaanjifekgfemaaGreat.K
end
namespace Go.Proofs.YtaanjifekgfemaaGreat.Cl
section
open Tryz Go.RowKit YtaanjifekgfemaaGreat.K YtaanjifekgfemaaGreat.W
def ikE (k : Int) : Value := .int .i64 k
def nrV (x : Int × Int) : Value := .agg #[.int .i64 x.1, .int .i64 x.2]
abbrev NT := List (Ent Int (Int × Int))
def Cf (es : NT) (who : Int) : Int × Int := (Cb who es).getD (0, 0)
def Dh (es : NT) (who : Int) : Int := if who < 0 ∨ 48 ≤ who then 1 else if Cb who es = none ∧ es.length = 16 then 7 else 0
def Jk (es : NT) (who : Int) (clock : Nat) : NT := if Dh es who = 0 then H5 who ((Cf es who).1, 0) clock es else es
def O9 (es : NT) (who : Int) (clock : Nat) : Nat := if Dh es who = 0 then Hu who clock es else clock
structure NearFit (es : NT) : Prop where
  val : ∀ e ∈ es, (0 ≤ e.val.1 ∧ e.val.1 ≤ 1073741824) ∧ 0 ≤ e.val.2 ∧ e.val.2 ≤ 1073741824
  len : es.length ≤ 16
  keys : (es.map (·.key)).Nodup
def D3 (pat : Int) (e : Ent Int (Int × Int)) : Prop := 0 < e.val.2 ∧ pat < e.val.2
instance (pat : Int) (e : Ent Int (Int × Int)) : Decidable (D3 pat e) := by unfold D3; infer_instance
def Ey (pat : Int) (e : Ent Int (Int × Int)) : Ent Int (Int × Int) :=
  ⟨e.key, (if D3 pat e then e.val.1 else if e.val.2 = 0 then min (e.val.1 + 1) 1073741824 else 0, min (e.val.2 + 1) 1073741824), e.born⟩
def En (pat : Int) (es : NT) : NT := (es.filter fun e => ¬ D3 pat e).map (Ey pat)
end
section
open Tryz Go.RowKit YtaanjifekgfemaaGreat.K YtaanjifekgfemaaGreat.W
attribute [local irreducible] Bg Ak Bb sub neg mag Da mul Dy
theorem A91 {S ρ ty} {parts : Array (Nat × Operand)} {x0 : Option Nat} (hp : (parts.toList.map fun x => (x.1, ev ρ x.2)) = [(0, Value.map x0)]) : Y Tryz.prog S ρ (.build 204 parts) ty (.agg #[Value.map x0]) :=
 Y.build hp fun w => by simp [Instr.build, go_sem]
theorem Ie : FA 204 0 0 := fun _ _ => by simp [Instr.fieldAt, Instr.sureAddr, go_sem]
theorem Jw : FA 289 0 0 := fun _ _ => by simp [Instr.fieldAt, Instr.sureAddr, go_sem]
theorem Ih : FA 289 1 1 := fun _ _ => by simp [Instr.fieldAt, Instr.sureAddr, go_sem]
theorem Ub : W5 Tryz.prog 3 ikE := ⟨_, underlying3, fun k => by simp [ikE, Go.MapKept.IsKey], fun a b => by simp [ikE, Instr.sameNow]; rfl⟩
theorem A0z (w0 w : World) (F0 : List Nat) (L G : List Res) (I : St w0 F0 w L G) :
  Calls Tryz.prog 90 #[] w fun e w' => ∃ tb mb, e = .returned (.pointer (some ⟨tb, 0, none⟩)) ∧ St w0 F0 w' (Aa tb [.map (some mb)] 204 :: C9 ikE nrV mb ([]) (0) :: L) G := by
 refine W.func func90 O ntmps90 O<|Wh O<|I.y O (Y.assignP O)<|Ds O O<|Ow O (X.makeMap I ikE nrV fun mb w1 I => I.y O (A91 O)<|Ow O (X.boxA I O fun p3 w3 I => I.y O (Y.assignP O)<|Od O<|We O<|⟨_, Ac.one results90 O, ?_⟩)); exact ⟨p3, mb, O, I⟩
theorem Aoq (tb mb : Nat) (es : NT) (clock : Nat) (who : Int) (w0 w : World) (F0 : List Nat) (L G : List Res) (I : St w0 F0 w (Aa tb [.map (some mb)] 204 :: C9 ikE nrV mb (es) (clock) :: L) G) :
  Calls Tryz.prog 182 #[.pointer (some ⟨tb, 0, none⟩), .int .i64 who] w fun e w' => e = .returned (.int .i64 (Dh es who)) ∧ St w0 F0 w' (Aa tb [.map (some mb)] 204 :: C9 ikE nrV mb (Jk es who clock) (O9 es who clock) :: L) G := by
 refine W.func func182 O ntmps182 O<|Wh O<|I.a O O<|Od O<|Wq O<|Wh O<|I.p O O<|I.y O (Y.isNil underlying156 O O)<|Od O<|Wu O O<|Wk O<|Wq O<|Wh O<|I.u O O<|I.v O O O (fun b10 hb10 => I.b O O<|?_); cases b10
 ·replace hb10 := dF hb10; refine I.u O O<|I.W O O O (fun b13 hb13 => I.k O O O<|Od O<|?_); cases b13
  ·replace hb13 := dF hb13; refine Wu O O<|Wk O<|Wh O<|I.p O O<|I.t O O<|I.f Ie O O<|I.y O (Y.load 0 isAgg202 O O O)<|I.u O O<|I.y O (Y.lookup Ub underlying202 zeroValue289 (z0 := (0, 0)) 1 O O O)<|I.y O (Y.moveU O)<|I.e O O O<|I.yb O (Y.cast (Y.extract O O) (E5 _)) (fun b23 hb23 => Ow O (X.allocA I zeroValue289 fun p5 w5 I => Ow O (X.storeS I 0 sizeOf289 O O O O O (lZ O) O O fun _ I => I.g O O<|Od O<|Wq O<|Wh O<|I.b O O<|?_))); cases b23
   ·replace hb23 := dF hb23; refine I.q O O<|I.b O O<|I.p O O<|I.t O O<|I.f Ie O O<|I.y O (Y.load 1 isAgg202 O O O)<|I.y O (Y.lenM underlying202 2 O O)<|I.Y O O O (fun b32 hb32 => I.k O O O<|Od O<|?_); cases b32
    ·replace hb32 := dF hb32; refine Wu O O<|Wk O<|Wh O<|I.f Ih O O<|Ow O (X.storeV I 0 (.int _ _) sizeOf3 O O O O (lZ O) O O fun w8_1 I => Od O<|Wq O<|W.drawn O (by kernel_rfl) (Ctx _ _ (_) (_)) [6] (.op 0 0 (.op 1 0 (.op 2 0 (.op 3 0 (.op 4 0 (.op 5 0 (.op 6 1 .nil))))))) O (by kernel_rfl) I.drew.ctx<|?_); replace I := I.drew; generalize World.drew _ = wd at I ⊢; refine I.zp O O<|I.zt O O<|I.zf Ie O O<|I.z O (Y.load 1 isAgg202 O O O)<|I.zu O O<|I.z O (Y.loadA 0 isAgg289 sizeOf289 O O O O)<|Drw.z O O O O (X.mapUpd Ub underlying202 I 2 O O (k := who) O (v := ((Cf es who).1, 0)) O fun w9 I => Dd<|Wh O<|I.a O O<|Od O<|We O<|⟨_, Ac.one results182 O, ?_⟩)
     have hE : Dh es who = 0 := by
      unfold Dh; rw [if_neg (by omega), if_neg (fun h => hb32 (by exact_mod_cast h.2))]
     have hT : Jk es who clock = H5 who ((Cf es who).1, 0) clock es := if_pos hE; have hC : O9 es who clock = Hu who clock es := if_pos hE; exact ⟨Aj hE.symm, by rw [hT, hC]; exact (I.dr 1)⟩
    ·replace hb32 := dT hb32; refine Wt O O<|Wh O<|I.a O O<|Od O<|We O<|⟨_, Ac.one results182 O, ?_⟩
     have hE : Dh es who = 7 := by
      unfold Dh; rw [if_neg (by omega), if_pos ⟨by cases hg : Cb who es with | none => rfl | some v => rw [hg] at hb23; exact absurd O hb23, by exact_mod_cast hb32⟩]
     have hT : Jk es who clock = es := if_neg (by rw [hE]; decide); have hC : O9 es who clock = clock := if_neg (by rw [hE]; decide); exact ⟨Aj hE.symm, by rw [hT, hC]; exact (I.dr 1)⟩
   ·replace hb23 := dT hb23; refine I.q O O<|I.b O O<|On O<|On O<|On O<|On O<|On O<|On O<|I.k O O O<|Od O<|Wu O O<|Wk O<|Wh O<|I.f Ih O O<|Ow O (X.storeV I 0 (.int _ _) sizeOf3 O O O O (lZ O) O O fun w8_1 I => Od O<|Wq O<|W.drawn O (by kernel_rfl) (Ctx _ _ (_) (_)) [6] (.op 0 0 (.op 1 0 (.op 2 0 (.op 3 0 (.op 4 0 (.op 5 0 (.op 6 1 .nil))))))) O (by kernel_rfl) I.drew.ctx<|?_); replace I := I.drew; generalize World.drew _ = wd at I ⊢; refine I.zp O O<|I.zt O O<|I.zf Ie O O<|I.z O (Y.load 1 isAgg202 O O O)<|I.zu O O<|I.z O (Y.loadA 0 isAgg289 sizeOf289 O O O O)<|Drw.z O O O O (X.mapUpd Ub underlying202 I 2 O O (k := who) O (v := ((Cf es who).1, 0)) O fun w9 I => Dd<|Wh O<|I.a O O<|Od O<|We O<|⟨_, Ac.one results182 O, ?_⟩)
    have hE : Dh es who = 0 := by
     unfold Dh; rw [if_neg (by omega), if_neg (fun h => by rw [h.1] at hb23; cases hb23)]
    have hT : Jk es who clock = H5 who ((Cf es who).1, 0) clock es := if_pos hE; have hC : O9 es who clock = Hu who clock es := if_pos hE; exact ⟨Aj hE.symm, by rw [hT, hC]; exact (I.dr 1)⟩
  ·replace hb13 := dT hb13; refine Wt O O<|Wh O<|I.a O O<|Od O<|We O<|⟨_, Ac.one results182 O, ?_⟩
   have hE : Dh es who = 1 := by
    unfold Dh; rw [if_pos (by omega)]
   have hT : Jk es who clock = es := if_neg (by rw [hE]; decide); have hC : O9 es who clock = clock := if_neg (by rw [hE]; decide); exact ⟨Aj hE.symm, by rw [hT, hC]; exact I⟩
 ·replace hb10 := dT hb10; refine On O<|On O<|I.k O O O<|Od O<|Wt O O<|Wh O<|I.a O O<|Od O<|We O<|⟨_, Ac.one results182 O, ?_⟩
  have hE : Dh es who = 1 := by
   unfold Dh; rw [if_pos (by omega)]
  have hT : Jk es who clock = es := if_neg (by rw [hE]; decide); have hC : O9 es who clock = clock := if_neg (by rw [hE]; decide); exact ⟨Aj hE.symm, by rw [hT, hC]; exact I⟩
theorem A86 (tb mb : Nat) (es : NT) (clock : Nat) (who : Int) (w0 w : World) (F0 : List Nat) (L G : List Res) (I : St w0 F0 w (Aa tb [.map (some mb)] 204 :: C9 ikE nrV mb (es) (clock) :: L) G) :
  Calls Tryz.prog 181 #[.pointer (some ⟨tb, 0, none⟩), .int .i64 who] w fun e w' => ∃ b, e = .returned (.tuple #[.int .i64 (Cf es who).1, .bool b]) ∧ St w0 F0 w' (Aa tb [.map (some mb)] 204 :: C9 ikE nrV mb (es) (clock) :: L) G := by
 refine W.func func181 O ntmps181 O<|Wh O<|I.a O O<|I.g O O<|Od O<|Wq O<|Wh O<|I.p O O<|I.y O (Y.isNil underlying156 O O)<|Od O<|Wu O O<|Wk O<|Wh O<|I.p O O<|I.t O O<|I.f Ie O O<|I.y O (Y.load 0 isAgg202 O O O)<|I.u O O<|I.y O (Y.lookup Ub underlying202 zeroValue289 (z0 := (0, 0)) 1 O O O)<|I.y O (Y.moveU O)<|I.e O O O<|I.yb O (Y.cast (Y.extract O O) (E5 _)) (fun b18 hb18 => Ow O (X.allocA I zeroValue289 fun p6 w6 I => Ow O (X.storeS I 0 sizeOf289 O O O O O (lZ O) O O fun _ I => I.g O O<|Ds O O<|I.f Jw O O<|I.l 0 O O O O<|I.b O O<|I.a O O<|I.g O O<|Od O<|We O<|⟨_, Ac.two results181 O O, ?_⟩))); exact ⟨_, O, (I.dr 1)⟩
end
section
open Tryz Go.RowKit YtaanjifekgfemaaGreat.K YtaanjifekgfemaaGreat.W
def Wc (pat : Int) (Aw : List Nat) (e : Ent Int (Int × Int)) : Ent Int (Int × Int) := if e.born ∈ Aw then Ey pat e else e
def Lp (pat : Int) (Aw : List Nat) (es : NT) : NT := es.map (Wc pat Aw)
theorem Uz (pat : Int) (e : Ent Int (Int × Int)) : (Ey pat e).key = e.key ∧ (Ey pat e).born = e.born := ⟨rfl, rfl⟩
theorem K0 (pat : Int) (Aw : List Nat) (e : Ent Int (Int × Int)) : (Wc pat Aw e).key = e.key ∧ (Wc pat Aw e).born = e.born := by unfold Wc; split <;> exact ⟨rfl, rfl⟩
theorem A0x (pat : Int) (es : NT) : Lp pat [] es = es := by
 unfold Lp
 conv => rhs; rw [← List.map_id es]
 refine List.map_congr_left fun e _ => ?_; simp [Wc]
theorem A09 {pat : Int} {Aw : List Nat} {es : NT} (h : ∀ e ∈ Lp pat Aw es, e.born ∈ Aw) : Lp pat Aw es = es.map (Ey pat) := by
 refine List.map_congr_left fun e he => ?_; have h2 := h _ (List.mem_map_of_mem he); rw [(K0 pat Aw e).2] at h2; exact if_pos h2
theorem A0q {pat : Int} {Aw : List Nat} {es : NT} {e : Ent Int (Int × Int)} (h : e ∈ Lp pat Aw es) (hn : e.born ∉ Aw) : e ∈ es := by
 obtain ⟨y, hy, rfl⟩ := List.mem_map.1 h; rw [(K0 pat Aw y).2] at hn; unfold Wc; rw [if_neg hn]; exact hy
theorem Hf {α β : Type} {f : α → β} {l : List α} (h : (l.map f).Nodup) {a b : α} (ha : a ∈ l) (hb : b ∈ l) (e : f a = f b) : a = b := by
  induction l with
  | nil => cases ha
  | cons x l ih =>
    rw [List.map_cons, List.nodup_cons] at h; rcases List.mem_cons.1 ha with ha1 | ha <;> rcases List.mem_cons.1 hb with hb1 | hb
    · rw [ha1, hb1]
    · exact absurd (List.mem_map.2 ⟨b, hb, by rw [← e, ha1]⟩) h.1
    · exact absurd (List.mem_map.2 ⟨a, ha, by rw [e, hb1]⟩) h.1
    · exact ih h.2 ha hb
theorem Oj {α : Type} [DecidableEq α] {s bs : List α} (h : s.Nodup) (hs : ∀ x ∈ s, x ∈ bs) : s.length ≤ bs.length := by
  induction s generalizing bs with
  | nil => simp
  | cons x s ih =>
    rw [List.nodup_cons] at h; have h1 := hs x (by simp); have h2 := ih (bs := bs.erase x) h.2 (fun y hy => (List.mem_erase_of_ne (by rintro rfl; exact h.1 hy)).2 (hs y (by simp [hy]))); rw [List.length_erase_of_mem h1] at h2; have := List.length_pos_of_mem h1; simp only [List.length_cons]; omega
theorem Xy {es : NT} {e : Ent Int (Int × Int)} (h : e ∈ es) (hk : (es.map (·.key)).Nodup) : Cb e.key es = some e.val := by
  induction es with
  | nil => cases h
  | cons x es ih =>
    rw [List.map_cons, List.nodup_cons] at hk; unfold Cb; rcases List.mem_cons.1 h with rfl | h
    · rw [if_pos rfl]
    · rw [if_neg (fun e' : e.key = x.key => hk.1 (by rw [← e']; exact List.mem_map_of_mem h))]; exact ih h hk.2
theorem Ze {es : NT} {e : Ent Int (Int × Int)} (h : e ∈ es) (hk : (es.map (·.key)).Nodup) (v : Int × Int) : Ki e.key v es = es.map fun y => if y.key = e.key then ⟨y.key, v, y.born⟩ else y := by
  induction es with
  | nil => cases h
  | cons x es ih =>
    rw [List.map_cons, List.nodup_cons] at hk; unfold Ki; rw [List.map_cons]
    by_cases hx : e.key = x.key
    · rw [if_pos hx, if_pos hx.symm]
      congr 1
      conv => lhs; rw [← List.map_id es]
      refine List.map_congr_left fun y hy => ?_; rw [if_neg (fun e' => hk.1 (by rw [← hx, ← e']; exact List.mem_map_of_mem hy))]; rfl
    · rw [if_neg hx, if_neg (Ne.symm hx)]
      congr 1
      rcases List.mem_cons.1 h with rfl | h
      · exact absurd rfl hx
      · exact ih h hk.2
theorem Aq6 (pat : Int) (Aw : List Nat) (es : NT) : (Lp pat Aw es).map (·.key) = es.map (·.key) := by
 unfold Lp; rw [List.map_map]; exact List.map_congr_left fun e _ => (K0 pat Aw e).1
theorem A31 {pat : Int} {Aw : List Nat} {es : NT} {e : Ent Int (Int × Int)} (h : e ∈ es) (hn : e.born ∉ Aw) (hk : (es.map (·.key)).Nodup) (hb : (es.map (·.born)).Nodup) (clock : Nat) :
  H5 e.key (Ey pat e).val clock (Lp pat Aw es) = Lp pat (Aw ++ [e.born]) es ∧ Hu e.key clock (Lp pat Aw es) = clock := by
 have hm : e ∈ Lp pat Aw es := List.mem_map.2 ⟨e, h, if_neg hn⟩; have hk2 : ((Lp pat Aw es).map (·.key)).Nodup := by rw [Aq6]; exact hk
 have hg := Xy hm hk2; unfold H5 Hu; rw [hg]; refine ⟨?_, rfl⟩; dsimp only; rw [Ze hm hk2]; unfold Lp; rw [List.map_map]; refine List.map_congr_left fun y hy => ?_; simp only [Function.comp_apply, (K0 pat Aw y).1]
 have inj : y.key = e.key ↔ y = e := by
  constructor
  ·intro hyk; exact Hf hk hy h hyk
  ·rintro rfl; rfl
 by_cases hy1 : y = e
 ·subst hy1; rw [if_pos rfl]; unfold Wc; rw [if_neg hn, if_pos (by simp)]; rfl
 ·rw [if_neg (fun e' => hy1 (inj.1 e'))]; have hbn : y.born ≠ e.born := fun e' => hy1 (Hf hb hy h e'); unfold Wc
  by_cases hs : y.born ∈ Aw
  ·rw [if_pos hs, if_pos (by simp [hs])]
  ·rw [if_neg hs, if_neg (by simp [hs, hbn])]
theorem Xn {es : NT} (k : Int) (hk : (es.map (·.key)).Nodup) : Kh k es = es.filter fun e => e.key ≠ k := by
  induction es with
  | nil => rfl
  | cons x es ih =>
    rw [List.map_cons, List.nodup_cons] at hk; unfold Kh
    by_cases hx : k = x.key
    · rw [if_pos hx, List.filter_cons_of_neg (by simp [hx])]; rw [List.filter_eq_self.2]; intro y hy; simp only [ne_eq, decide_eq_true_eq]; intro e; exact hk.1 (by rw [← hx, ← e]; exact List.mem_map_of_mem hy)
    · rw [if_neg hx, List.filter_cons_of_pos (by simpa using Ne.symm hx), ih hk.2]
theorem Bjx {es : NT} (gs : List Int) (hk : (es.map (·.key)).Nodup) : gs.foldl (fun m k => Kh k m) es = es.filter fun e => e.key ∉ gs := by
  induction gs generalizing es with
  | nil => simp only [List.foldl_nil]; exact (List.filter_eq_self.2 (fun e _ => by simp)).symm
  | cons k gs ih =>
    rw [List.foldl_cons, Xn k hk, ih ((List.filter_sublist.map _).nodup hk), List.filter_filter]; refine List.filter_congr fun e _ => ?_; simp only [List.mem_cons, not_or, ne_eq, Bool.decide_and]; rw [Bool.and_comm]
theorem A6q {pat : Int} {es : NT} {gs : List Int} (hk : (es.map (·.key)).Nodup) (hg : ∀ e ∈ es, e.key ∈ gs ↔ D3 pat e) : gs.foldl (fun m k => Kh k m) (es.map (Ey pat)) = En pat es := by
 rw [Bjx gs (by rw [List.map_map]; exact hk)]; unfold En; rw [List.filter_map]
 congr 1
 refine List.filter_congr fun e he => ?_; simp only [Function.comp_apply]; have := hg e he
 by_cases h : D3 pat e
 ·simp [h, this.2 h, (Uz pat e).1]
 ·have h2 : e.key ∉ gs := fun x => h (this.1 x); simp [h, h2, (Uz pat e).1]
theorem Ao7 {pat : Int} {Aw : List Nat} {es : NT} {gs : List Int} {e : Ent Int (Int × Int)} (he : e ∈ es) (hn : e.born ∉ Aw) (hk : (es.map (·.key)).Nodup) (hb : (es.map (·.born)).Nodup) (h : ∀ y ∈ es, y.key ∈ gs ↔ (y.born ∈ Aw ∧ D3 pat y)) :
  ∀ y ∈ es, y.key ∈ (if D3 pat e then gs ++ [e.key] else gs) ↔ (y.born ∈ Aw ++ [e.born] ∧ D3 pat y) := by
 intro y hy; have h1 := h y hy
 by_cases hye : y = e
 ·subst hye
  by_cases hg : D3 pat y
  ·rw [if_pos hg]; simp [hg]
  ·rw [if_neg hg, h1]; simp [hg]
 ·have hkne : y.key ≠ e.key := fun x => hye (Hf hk hy he x); have hbne : y.born ≠ e.born := fun x => hye (Hf hb hy he x)
  by_cases hg : D3 pat e
  ·rw [if_pos hg]; simp only [List.mem_append, List.mem_singleton, hkne, hbne, or_false]; exact h1
  ·rw [if_neg hg]; simp only [List.mem_append, List.mem_singleton, hbne, or_false]; exact h1
theorem A57 {Aw : List Nat} {es : NT} {b : Nat} (h1 : Aw.Nodup) (h2 : ∀ b ∈ Aw, b ∈ es.map (·.born)) (hb : b ∈ es.map (·.born)) (hn : b ∉ Aw) : (Aw ++ [b]).Nodup ∧ (∀ x ∈ Aw ++ [b], x ∈ es.map (·.born)) ∧ Aw.length + 1 ≤ es.length := by
 have a1 : (Aw ++ [b]).Nodup := by
  rw [List.nodup_append]; exact ⟨h1, by simp, fun x hx y hy => by rw [List.mem_singleton] at hy; subst hy; rintro rfl; exact hn hx⟩
 have a2 : ∀ x ∈ Aw ++ [b], x ∈ es.map (·.born) := by
  intro x hx; rcases List.mem_append.1 hx with hx | hx
  ·exact h2 x hx
  ·rw [List.mem_singleton] at hx; subst hx; exact hb
 have := Oj a1 a2; simp at this; exact ⟨a1, a2, this⟩
end
section
open Tryz Go.RowKit YtaanjifekgfemaaGreat.K YtaanjifekgfemaaGreat.W
attribute [local irreducible] Bg Ak Bb sub neg mag Da mul Dy
theorem Bp0 : CF 150 := fun _ _ => by simp [go_sem]
set_option maxHeartbeats 1000000 in
theorem At7 (tb mb : Nat) (es : NT) (clock : Nat) (pat : Int) (hf : NearFit es) (w0 w : World) (F0 : List Nat) (L G : List Res) (I : St w0 F0 w (Aa tb [.map (some mb)] 204 :: C9 ikE nrV mb (es) (clock) :: L) G) :
  Calls Tryz.prog 175 #[.pointer (some ⟨tb, 0, none⟩), .int .i64 pat] w fun e w' => ∃ v, e = .returned v ∧ St w0 F0 w' (Aa tb [.map (some mb)] 204 :: C9 ikE nrV mb (En pat es) (clock) :: L) G := by
 refine W.func func175 O ntmps175 O<|Wh O<|I.y O (Y.assignS O)<|Ds O O<|I.y O (Y.assignS O)<|Od O<|Wq O<|Wh O<|I.p O O<|I.y O (Y.isNil underlying156 O O)<|Od O<|Wu O O<|Wk O<|Wq O<|Wh O<|?_; replace I := I.nilRow 3 1; have hmr : (es.map (·.born)).Nodup := (I.res _ (.tail _ (.tail _ (.head _)))).2.2; refine I.p O O<|I.t O O<|I.f Ie O O<|I.y O (Y.load 1 isAgg202 O O O)<|Ow O (X.range underlying202 I 2 O O fun p16 w16 I => Od O<|Wb O<|?_); refine W.loop (γ := List Nat × List Int × (Option Addr × Nat)) [(0, .pointer _), (1, .int _ _), (16, .pointer _)] (fun x => [(5, .slice x.2.2.1 x.2.1.length x.2.2.2)]) (fun x w => ((x.1.Nodup ∧ (∀ b ∈ x.1, b ∈ es.map (·.born))) ∧ x.2.1.length ≤ x.1.length ∧ ∀ y ∈ es, y.key ∈ x.2.1 ↔ (y.born ∈ x.1 ∧ D3 pat y)) ∧ St w0 F0 w (Lv p16 mb clock (x.1) clock :: Af (.slice x.2.2.1 (x.2.1).length x.2.2.2) 3 1 (x.2.1).length (ivs (x.2.1)) :: Aa tb [.map (some mb)] 204 :: C9 ikE nrV mb (Lp pat x.1 es) clock :: L) G) (fun x => es.length - x.1.length) (([], [], (none, 0))) O ⟨O, O, O, trivial⟩ ?_ ?_ ?_
 ·exact ⟨O, trivial⟩
 ·exact ⟨⟨⟨List.nodup_nil, by simp⟩, Nat.le_refl _, by simp⟩, by rw [A0x]; exact I⟩
 ·clear I; rintro ⟨Aw, gs, ⟨A5, c5⟩⟩ j w5 ⟨⟨⟨hs1, hs2⟩, hs3, hs4⟩, I⟩; dsimp only at hs1 hs2 hs3 hs4; have hgl : (Aw, gs, A5, c5).snd.fst.length = gs.length := rfl
  have hgs16 : gs.length ≤ 16 := by
   have h1 := Oj hs1 hs2; rw [List.length_map] at h1; have h2 := hf.len; omega
  refine Wh O<|Ow O (X.nextO I 0 3 O O O (Nat.le_refl _) (Nat.le_refl _) fun o w17 ho I => ?_); rcases o with _ | e
  ·skip
   refine I.e O O O<|Od O<|Wq O<|Wu O O<|W.exit O<|Wq O<|Wh O<|I.s O O<|I.y O (Y.lenS underlying24 O)<|I.u O O<|Od O<|Wb O<|?_; refine W.loop (γ := Nat) [(0, .pointer _), (5, .slice _ _ _), (57, .slice _ _ _), (58, .int _ _)] (fun k => [(59, .int .i64 (k : Int))]) (fun k w => k ≤ gs.length ∧ St w0 F0 w (Af (.slice A5 (gs).length c5) 3 1 (gs).length (ivs (gs)) :: Aa tb [.map (some mb)] 204 :: C9 ikE nrV mb ((gs.take k).foldl (fun m k => Kh k m) (es.map (Ey pat))) clock :: L) G) (fun k => gs.length - k) (0) O ⟨O, O, O, O, trivial⟩ ?_ ?_ ?_
   ·exact ⟨O, trivial⟩
   ·have ho2 : ∀ e ∈ Lp pat Aw es, e.born ∈ Aw := ho; have hst3 := I.dr 1; rw [A09 ho2] at hst3; exact ⟨Nat.zero_le _, hst3⟩
   ·clear I; rintro k j w15 ⟨hk, I⟩; refine Wh O<|I.v O O O (fun b60 hb60 => Od O<|Wq O<|?_); cases b60
    ·replace hb60 := dF hb60; refine Wu O O<|W.exit O<|Wq O<|?_; obtain rfl : k = gs.length := by omega
     refine Wr O<|I.s O O<|Ow O (X.ret Bp0 (A60 gs _ O (by omega) A5 c5 _ _ _ _ _ I) O fun _ I => Ds O O<|I.s O O<|I.y O (Y.assignS O)<|Od O<|We O<|⟨_, Ac.one results175 O, ?_⟩); have e4 := A6q (pat := pat) (gs := gs) hf.keys (fun y hy => (hs4 y hy).trans ⟨fun h => h.2, fun h => ⟨by have h5 := ho _ (List.mem_map_of_mem (f := Wc pat Aw) hy); rwa [(K0 pat Aw y).2] at h5, h⟩⟩); rw [List.take_length, e4] at I; exact ⟨_, O, I⟩
    ·replace hb60 := dT hb60; refine Wt O O<|Wk O<|Wq O<|Wb O<|Wq O<|?_; have hk1 : k < gs.length := by omega
     refine Wr rfl<|I.y rfl (Y.indexAddr underlying24 sizeOf3 rfl rfl ((Rds.sl (Rds.rowL 0 (by rfl)) I).ne (by simp [ivs]; omega)) (by omega))<|?_; refine I.y O (Y.loadSl isAgg3 O (Rds.rowL 0 O) (Ef (l := gs) hk1))<|I.a O O<|Od O<|Wr O<|I.p O O<|I.t O O<|I.f Ie O O<|I.y O (Y.load 1 isAgg202 O O O)<|I.u O O<|Ow O (X.mapDel Ub underlying202 I 2 O O (k := gs.getD k 0) O fun w17 I => Od O<|Wr O<|I.j O O O (by omega)<|I.u O O<|Od O<|?_); have e3 : gs.getD k 0 = gs[k] := by simp [hk1]
     have hst2 := I; rw [e3] at hst2; refine ⟨k + 1, ⟨O, trivial⟩, ⟨O, O, O, O, trivial⟩, ⟨by omega, ?_⟩, by omega⟩; rw [List.take_succ_eq_append_getElem hk1, List.foldl_append]; exact hst2
  ·have he := A0q ho.1 ho.2; have hv := hf.val e he; have hsl := A57 hs1 hs2 (List.mem_map_of_mem he) ho.2; have hlen := hf.len; refine I.e O O O<|Od O<|Wq O<|Wt O O<|Wk O<|Wb O<|Wh O<|I.y O (Y.entry 0 3 O O O ho.1)<|I.e O O O<|I.e O O O<|Ow O (X.allocA I zeroValue289 fun p7 w7 I => I.a O O<|Ow O (X.storeS I 0 sizeOf289 O O O O O (lZ O) O O fun _ I => Od O<|Wq O<|?_)); refine W.cut [(0, .pointer _), (1, .int _ _), (6, .int _ _), (7, .pointer _), (16, .pointer _)] (fun x : List Int × (Option Addr × Nat) => [(5, .slice x.2.1 x.1.length x.2.2)]) (fun x w => x.1 = (if D3 pat e then gs ++ [e.key] else gs) ∧ St w0 F0 w (Aa p7 [.int .i64 (Ey pat e).val.1, .int .i64 e.val.2] 289 :: Lv p16 mb clock (Aw ++ [e.born]) clock :: Af (.slice x.2.1 (x.1).length x.2.2) 3 1 (x.1).length (ivs (x.1)) :: Aa tb [.map (some mb)] 204 :: C9 ikE nrV mb (Lp pat Aw es) clock :: L) G) ⟨O, O, O, O, O, trivial⟩ ?_ ?_
   rotate_left
   ·clear I; rintro ⟨gs', ⟨A6, c6⟩⟩ j w7 ⟨hgs, I⟩; refine Wh O<|I.f Ih O O<|I.l 0 O O O O<|I.j O O O (by omega)<|I.y O (Y.min2 O O)<|I.f Ih O O<|Ow O (X.storeV I 0 (.int _ _) sizeOf3 O O O O (lZ O) O O fun _ I => Od O<|W.drawn O (by kernel_rfl) (Ctx _ _ (_) (_)) [6] (.op 0 0 (.op 1 0 (.op 2 0 (.op 3 0 (.op 4 0 (.op 5 0 (.op 6 1 .nil))))))) O (by kernel_rfl) I.drew.ctx<|?_); replace I := I.drew; generalize World.drew _ = wd at I ⊢; refine I.zp O O<|I.zt O O<|I.zf Ie O O<|I.z O (Y.load 3 isAgg202 O O O)<|I.zu O O<|I.z O (Y.loadA 0 isAgg289 sizeOf289 O O O O)<|Drw.z O O O O (X.mapUpd Ub underlying202 I 4 O O (k := e.key) O (v := (Ey pat e).val) O fun _ I => Dd<|?_); have hp := A31 (pat := pat) he ho.2 hf.keys hmr clock; have hst2 := (I.dr 1); rw [hp.1, hp.2] at hst2; refine ⟨(Aw ++ [e.born], gs', (A6, c6)), ⟨O, trivial⟩, ⟨O, O, O, trivial⟩, ⟨⟨⟨hsl.1, hsl.2.1⟩, ?_, ?_⟩, hst2⟩, ?_⟩
    ·dsimp only at hgs ⊢; rw [hgs]; split <;> simp <;> omega
    ·dsimp only at hgs ⊢; rw [hgs]; exact Ao7 he ho.2 hf.keys hmr hs4
    ·simp only [List.length_append, List.length_cons, List.length_nil]; omega
   refine Wb O<|Wh O<|I.f Ih O O<|I.l 0 O O O O<|I.V O O O (fun b26 hb26 => I.b O O<|?_); cases b26
   ·replace hb26 := dF hb26; refine On O<|On O<|On O<|On O<|I.k O O O<|I.g O O<|Od O<|Wu O O<|Wh O<|I.f Ih O O<|I.l 0 O O O O<|I.Y O O O (fun b40 hb40 => I.g O O<|Od O<|?_); cases b40
    ·replace hb40 := dF hb40; refine Wu O O<|Wr O<|I.f Jw O O<|Ow O (X.storeV I 0 (.int _ _) sizeOf3 O O O O (lZ O) O O fun w7_1 I => Od O<|?_); have hg : ¬ D3 pat e := fun h => (by have h1 := h.1; have h2 := h.2; omega)
     have ha : (Ey pat e).val.1 = 0 := by
      show (if D3 pat e then _ else _) = _; rw [if_neg hg, if_neg (by omega)]
     exact ⟨(gs, (A5, c5)), ⟨O, trivial⟩, ⟨O, O, O, O, O, trivial⟩, (if_neg hg).symm, by rw [ha]; exact I⟩
    ·replace hb40 := dT hb40; refine Wt O O<|Wr O<|I.f Jw O O<|I.l 0 O O O O<|I.j O O O (by omega)<|I.y O (Y.min2 O O)<|I.f Jw O O<|Ow O (X.storeV I 0 (.int _ _) sizeOf3 O O O O (lZ O) O O fun w11_5 I => Od O<|?_); have hg : ¬ D3 pat e := fun h => (by have h1 := h.1; have h2 := h.2; omega)
     have ha : (Ey pat e).val.1 = min (e.val.1 + 1) 1073741824 := by
      show (if D3 pat e then _ else _) = _; rw [if_neg hg, if_pos (by omega)]
     exact ⟨(gs, (A5, c5)), ⟨O, trivial⟩, ⟨O, O, O, O, O, trivial⟩, (if_neg hg).symm, by rw [ha]; exact I⟩
   ·replace hb26 := dT hb26; refine I.f Ih O O<|I.l 0 O O O O<|I.u O O<|I.V O O O (fun b31 hb31 => I.k O O O<|I.g O O<|Od O<|?_); cases b31
    ·replace hb31 := dF hb31; refine Wu O O<|Wh O<|I.f Ih O O<|I.l 0 O O O O<|I.Y O O O (fun b40 hb40 => I.g O O<|Od O<|?_); cases b40
     ·replace hb40 := dF hb40; refine Wu O O<|Wr O<|I.f Jw O O<|Ow O (X.storeV I 0 (.int _ _) sizeOf3 O O O O (lZ O) O O fun w7_1 I => Od O<|?_); have hg : ¬ D3 pat e := fun h => (by have h1 := h.1; have h2 := h.2; omega)
      have ha : (Ey pat e).val.1 = 0 := by
       show (if D3 pat e then _ else _) = _; rw [if_neg hg, if_neg (by omega)]
      exact ⟨(gs, (A5, c5)), ⟨O, trivial⟩, ⟨O, O, O, O, O, trivial⟩, (if_neg hg).symm, by rw [ha]; exact I⟩
     ·replace hb40 := dT hb40; refine Wt O O<|Wr O<|I.f Jw O O<|I.l 0 O O O O<|I.j O O O (by omega)<|I.y O (Y.min2 O O)<|I.f Jw O O<|Ow O (X.storeV I 0 (.int _ _) sizeOf3 O O O O (lZ O) O O fun w11_5 I => Od O<|?_); have hg : ¬ D3 pat e := fun h => (by have h1 := h.1; have h2 := h.2; omega)
      have ha : (Ey pat e).val.1 = min (e.val.1 + 1) 1073741824 := by
       show (if D3 pat e then _ else _) = _; rw [if_neg hg, if_pos (by omega)]
      exact ⟨(gs, (A5, c5)), ⟨O, trivial⟩, ⟨O, O, O, O, O, trivial⟩, (if_neg hg).symm, by rw [ha]; exact I⟩
    ·replace hb31 := dT hb31; refine Wt O O<|Wr O<|I.s O O<|I.u O O<|Ow O (Xl I (by rfl) (by rfl) (by rfl) [.int _ _] (by rfl) (by rfl) fun p35 w35 I => ?_); refine Ow rfl (X.app I 3 0 underlying24 Jl rfl rfl rfl rfl rfl rfl rfl rfl (by unfold maxLen; omega) (by omega) fun A36 c36 w36 I => ?_); refine I.y O (Y.assignS O)<|Od O<|?_; have hg : D3 pat e := ⟨hb26, hb31⟩; have ha : (Ey pat e).val.1 = e.val.1 := if_pos hg; refine ⟨(gs ++ [e.key], (A36, c36)), ⟨?_, trivial⟩, ⟨O, O, O, O, O, trivial⟩, (if_pos hg).symm, ?_⟩
     ·simp; rfl
     ·rw [ha, show (gs ++ [e.key]).length = gs.length + 1 by simp, show ivs (gs ++ [e.key]) = ivs gs ++ [.int .i64 e.key] by unfold ivs; rw [List.map_append]; rfl]; exact (I.dr 1)
end
section
open Tryz Go.RowKit YtaanjifekgfemaaGreat.K YtaanjifekgfemaaGreat.W
structure KS where
  es : NT
  clock : Nat
  out : List Hd
def J5 (me : Int) (k : KS) (h : Hd) : Prop := (∃ x ∈ k.out, decide (x.m.from_ = h.m.from_) = true) ∨ h.m.from_ = me
instance (me : Int) (k : KS) (h : Hd) : Decidable (J5 me k h) := by unfold J5; infer_instance
def knE (me : Int) (k : KS) (h : Hd) : NT := if J5 me k h then k.es else Jk k.es h.m.from_ k.clock
def knC (me : Int) (k : KS) (h : Hd) : Nat := if J5 me k h then k.clock else O9 k.es h.m.from_ k.clock
def Yd (me : Int) (k : KS) (h : Hd) : Prop := ¬ J5 me k h ∧ Dh k.es h.m.from_ = 0
instance (me : Int) (k : KS) (h : Hd) : Decidable (Yd me k h) := by unfold Yd; infer_instance
def E3 (age : Int) (h : Hd) : Prop := (h.m.kind = 1 ∧ h.m.from_ < 16) ∨ (h.m.kind = 2 ∧ 16 ≤ h.m.from_ ∧ 0 < age)
instance (age : Int) (h : Hd) : Decidable (E3 age h) := by unfold E3; infer_instance
def Hz (me : Int) (k : KS) (h : Hd) : KS := ⟨knE me k h, knC me k h, if Yd me k h ∧ E3 (Cf k.es h.m.from_).1 h then k.out ++ [h] else k.out⟩
def Ah (me : Int) (k0 : KS) (l : List Hd) : KS := l.foldl (Hz me) k0
theorem Dj (me : Int) (k0 : KS) (l : List Hd) (k : Nat) (h : k < l.length) : Ah me k0 (l.take (k + 1)) = Hz me (Ah me k0 (l.take k)) l[k] := by
 unfold Ah; rw [List.take_succ_eq_append_getElem h, List.foldl_append]; rfl
theorem Kx (me : Int) (k0 : KS) (l : List Hd) (h0 : k0.out = []) : (Ah me k0 l).out.Sublist l := by
  unfold Ah
  have : ∀ (l pre : List Hd) (k : KS), k.out.Sublist pre → (l.foldl (Hz me) k).out.Sublist (pre ++ l) := by
    intro l
    induction l with
    | nil => intro pre k h; simpa using h
    | cons x l ih =>
      intro pre k h
      have h2 : (Hz me k x).out.Sublist (pre ++ [x]) := by
        simp only [Hz]; split
        · exact List.Sublist.append h (.refl _)
        · exact h.trans (List.sublist_append_left _ _)
      have := ih (pre ++ [x]) _ h2; simpa using this
  simpa using this l [] k0 (by rw [h0]; exact .refl _)
theorem Ao6 {es : NT} {k : Int} (h : Cb k es = none) : ∀ e ∈ es, e.key ≠ k := by
  induction es with
  | nil => simp
  | cons x es ih =>
    unfold Cb at h; split at h
    · cases h
    · rename_i hx; intro e he; rcases List.mem_cons.1 he with rfl | he
      · exact Ne.symm hx
      · exact ih h e he
theorem N7 {es : NT} {k : Int} {v : Int × Int} (h : Cb k es = some v) : ∃ e ∈ es, e.key = k ∧ e.val = v := by
  induction es with
  | nil => cases h
  | cons x es ih =>
    unfold Cb at h; split at h
    · rename_i hx; injection h with h; exact ⟨x, List.mem_cons_self, hx.symm, h⟩
    · obtain ⟨e, he, h2⟩ := ih h; exact ⟨e, List.mem_cons_of_mem _ he, h2⟩
theorem NearFit.near {es : NT} (h : NearFit es) (k : Int) : (0 ≤ (Cf es k).1 ∧ (Cf es k).1 ≤ 1073741824) ∧ 0 ≤ (Cf es k).2 ∧ (Cf es k).2 ≤ 1073741824 := by
  unfold Cf
  cases hg : Cb k es with
  | none => decide
  | some v =>
    obtain ⟨e, he, _, rfl⟩ := N7 hg; exact h.val e he
theorem NearFit.hear {es : NT} (h : NearFit es) (who : Int) (clock : Nat) : NearFit (Jk es who clock) := by
  unfold Jk; split
  · rename_i h0; have hn := h.near who; unfold H5
    cases hg : Cb who es with
    | some v =>
      dsimp only; obtain ⟨e, he, hk, hv⟩ := N7 hg; subst hk; rw [Ze he h.keys]; refine ⟨fun y hy => ?_, by simpa using h.len, ?_⟩
      · obtain ⟨z, hz, rfl⟩ := List.mem_map.1 hy; split
        · exact ⟨hn.1, (by decide : (0 : Int) ≤ 0), (by decide : (0 : Int) ≤ 1073741824)⟩
        · exact h.val z hz
      · rw [List.map_map]; have : es.map ((fun x => x.key) ∘ fun y => if y.key = e.key then (⟨y.key, ((Cf es e.key).1, 0), y.born⟩ : Ent Int (Int × Int)) else y) = es.map (·.key) := List.map_congr_left fun y _ => by simp only [Function.comp_apply]; split <;> rfl
        rw [this]; exact h.keys
    | none =>
      dsimp only; refine ⟨fun y hy => ?_, ?_, ?_⟩
      · rcases List.mem_append.1 hy with hy | hy
        · exact h.val y hy
        · rw [List.mem_singleton] at hy; subst hy; exact ⟨hn.1, (by decide : (0 : Int) ≤ 0), (by decide : (0 : Int) ≤ 1073741824)⟩
      · have hl := h.len
        have : ¬ es.length = 16 := fun e => by
          unfold Dh at h0; split at h0
          · cases h0
          · rw [if_pos ⟨hg, e⟩] at h0; cases h0
        simp only [List.length_append, List.length_cons, List.length_nil]; omega
      · rw [List.map_append, List.nodup_append]; refine ⟨h.keys, by simp, fun a ha b hb => ?_⟩; obtain ⟨y, hy, rfl⟩ := List.mem_map.1 ha; simp only [List.map_cons, List.map_nil, List.mem_singleton] at hb; subst hb; exact Ao6 hg y hy
  · exact h
theorem NearFit.known {k : KS} (h : NearFit k.es) (me : Int) (l : List Hd) : NearFit (Ah me k l).es := by
  unfold Ah
  induction l generalizing k with
  | nil => exact h
  | cons x l ih =>
    refine ih (k := Hz me k x) ?_; simp only [Hz, knE]; split
    · exact h
    · exact h.hear _ _
theorem NearFit.tick {es : NT} (h : NearFit es) (pat : Int) : NearFit (En pat es) := by
 unfold En; have hs := List.filter_sublist (l := es) (p := fun e => decide ¬ D3 pat e); refine ⟨fun y hy => ?_, by rw [List.length_map]; exact Nat.le_trans hs.length_le h.len, ?_⟩
 ·obtain ⟨z, hz, rfl⟩ := List.mem_map.1 hy; have hv := h.val z (hs.mem hz); simp only [Ey]; refine ⟨?_, by omega, by omega⟩; split
  ·exact hv.1
  ·split <;> omega
 ·rw [List.map_map]; exact (hs.map _).nodup h.keys
end
section
open Tryz Go.RowKit YtaanjifekgfemaaGreat.K YtaanjifekgfemaaGreat.W
attribute [local irreducible] Bg Ak Bb sub neg mag Da mul Dy
theorem Ahq : FA 158 1 23 := fun _ _ => by simp [Instr.fieldAt, Instr.sureAddr, go_sem]
theorem Vk : FA 158 2 24 := fun _ _ => by simp [Instr.fieldAt, Instr.sureAddr, go_sem]
theorem Bp8 : CF 181 := fun _ _ => by simp [go_sem]
theorem Bp9 : CF 182 := fun _ _ => by simp [go_sem]
theorem Bp7 : CF 180 := fun _ _ => by simp [go_sem]
theorem Acz (x : Hd) (y : M) (B : Option Addr) (cb : Nat) (b : Nat) (w0 w : World) (F0 : List Nat) (L G : List Res) (I : St w0 F0 w L G) (j : Nat) (hj : L[j]? = some (Aa b (Pq y B cb) 103)) :
  Calls Tryz.prog 180 #[.agg (hdC x).toArray, .pointer (some ⟨b, 0, none⟩)] w fun e w' => e = .returned (.bool (decide (x.m.from_ = y.from_))) ∧ St w0 F0 w' L G := by
 refine W.func func180 O ntmps180 O<|Wh O<|Ow O (X.boxA I O fun p2 w2 I => I.g O O<|Ds O O<|I.f Dg O O<|I.f Co O O<|I.l 0 O O O O<|I.f Co O O<|I.y O (Y.load (j + 1) isAgg3 O (by simpa using hj) O)<|?_); refine I.Y O O O (fun b9 hb9 => I.g O O<|Od O<|We O<|⟨_, Ac.one results180 O, ?_⟩); exact ⟨congrArg (fun b => Ending.returned (.bool b)) hb9, (I.dr 1)⟩
set_option maxHeartbeats 2000000 in
theorem Ap8 (b : Nat) (T : TypeId) (p : Par) (s : Stt) (A : Option Addr) (cap : Nat) (me : Int) (tb mb : Nat) (es : NT) (clock : Nat) (l : List Hd) (hl : l.length ≤ 1000000) (B : Option Addr) (cb : Nat) (w0 w : World) (F0 : List Nat) (L G : List Res) (I : St w0 F0 w (frR b T p s A cap [.int .i64 me, .pointer (some ⟨tb, 0, none⟩)] :: Aa tb [.map (some mb)] 204 :: C9 ikE nrV mb (es) (clock) :: L) G) (hr : Rds [] G (.slice B l.length cb) l.length (Ae hdC l)) :
  Calls Tryz.prog 174 #[.pointer (some ⟨b, 0, none⟩), .slice B l.length cb] w fun e w' => ∃ A' c', e = .returned (.slice A' (Ah me ⟨es, clock, []⟩ l).out.length c') ∧ St w0 F0 w' (Af (.slice A' ((Ah me ⟨es, clock, []⟩ l).out).length c') 138 15 ((Ah me ⟨es, clock, []⟩ l).out).length (Ae hdC ((Ah me ⟨es, clock, []⟩ l).out)) :: frR b T p s A cap [.int .i64 me, .pointer (some ⟨tb, 0, none⟩)] :: Aa tb [.map (some mb)] 204 :: C9 ikE nrV mb ((Ah me ⟨es, clock, []⟩ l).es) ((Ah me ⟨es, clock, []⟩ l).clock) :: L) G := by
 refine W.func func174 O ntmps174 O<|Wh O<|I.y O (Y.assignS O)<|Ds O O<|I.y O (Y.assignS O)<|Od O<|Wq O<|Wh O<|?_; replace I := I.nilRow 138 15; refine I.s O O<|I.y O (Y.lenS underlying97 O)<|I.u O O<|Od O<|Wb O<|?_; refine W.loop (γ := Nat × (Option Addr × Nat)) [(0, .pointer _), (12, .slice _ _ _), (13, .int _ _)] (fun x => [(5, .slice x.2.1 (Ah me ⟨es, clock, []⟩ (l.take x.1)).out.length x.2.2), (14, .int .i64 (x.1 : Int))]) (fun x w => x.1 ≤ l.length ∧ St w0 F0 w (Af (.slice x.2.1 ((Ah me ⟨es, clock, []⟩ (l.take x.1)).out).length x.2.2) 138 15 ((Ah me ⟨es, clock, []⟩ (l.take x.1)).out).length (Ae hdC ((Ah me ⟨es, clock, []⟩ (l.take x.1)).out)) :: frR b T p s A cap [.int .i64 me, .pointer (some ⟨tb, 0, none⟩)] :: Aa tb [.map (some mb)] 204 :: C9 ikE nrV mb ((Ah me ⟨es, clock, []⟩ (l.take x.1)).es) ((Ah me ⟨es, clock, []⟩ (l.take x.1)).clock) :: L) G) (fun x => l.length - x.1) ((0, (none, 0))) O ⟨O, O, O, trivial⟩ ?_ ?_ ?_
 ·exact ⟨O, O, trivial⟩
 ·exact ⟨by omega, I⟩
 ·clear I; rintro ⟨k, ⟨A5, c5⟩⟩ j w5 ⟨hk, I⟩; refine Wh O<|I.v O O O (fun b15 hb15 => Od O<|Wq O<|?_); cases b15
  ·replace hb15 := dF hb15; refine Wu O O<|W.exit O<|Wq O<|?_; obtain rfl : k = l.length := by omega
   have e1 : l.take l.length = l := List.take_length; refine Wr O<|I.s O O<|I.y O (Y.assignS O)<|Od O<|We O<|⟨_, Ac.one results174 O, ?_⟩; have hst2 := I; dsimp only at hst2; rw [e1] at hst2; exact ⟨A5, c5, congrArg (fun q => Ending.returned (.slice A5 (Ah me ⟨es, clock, []⟩ q).out.length c5)) e1, hst2⟩
  ·replace hb15 := dT hb15; refine Wt O O<|Wk O<|Wq O<|Wb O<|Wq O<|?_; have hk1 : k < l.length := by omega
   have htl : (Ah me ⟨es, clock, []⟩ (l.take k)).out.length ≤ 1000000 := by have := (Kx me ⟨es, clock, []⟩ (l.take k) rfl).length_le; rw [List.length_take] at this; omega
   refine Wr O<|I.y O (Y.indexAddr underlying97 sizeOf138 O O ((hr.hd.sl I).ne (Bi B5 (by decide) (by omega))) (by omega))<|?_; refine I.y O (Y.loadSlA isAgg138 sizeOf138 O hr.hd (Bo B5 l k hk1) (B5 _))<|Ow O (X.allocA I zeroValue138 fun p7 w7 I => Ow O (X.storeS I 0 sizeOf138 O O O O O (lZ O) O O fun _ I => Ds O O<|I.f Dg O O<|I.y O (Y.loadA 0 isAgg103 sizeOf103 O O O O)<|Ow O (X.allocA I zeroValue103 fun p8 w8 I => Ow O (X.storeS I 0 sizeOf103 O O O O O (lZ O) O O fun _ I => Ds O O<|I.s O O<|I.y O (Y.makeFunc O O)<|Ow O (X.retB Bgz (Hv hdC B5 (fun x : Hd => decide (x.m.from_ = l[k].m.from_)) (Ah me ⟨es, clock, []⟩ (l.take k)).out (by omega) A5 c5 180 [] [.pointer (some ⟨p8, 0, none⟩)] Bp7 _ _ _ _ _ I (Rds.rowL 2 O) (fun x hx w I => Acz x l[k].m _ _ _ _ _ _ _ _ I 0 O)) O fun b22 w22 hb22 I => I.g O O<|Od O<|Wq O<|W.drawn O (by kernel_rfl) (Ctx _ _ (_) (_)) [] (.op 0 0 (.op 1 0 (.op 2 0 (.op 3 0 (.op 4 0 (.op 5 0 (.op 6 1 (.op 7 0 (.op 8 0 (.op 9 0 (.op 10 0 (.op 11 0 .nil)))))))))))) O (by kernel_rfl) I.drew.ctx<|?_))))); replace I := I.drew; generalize World.drew _ = wd at I ⊢; refine I.zp O O<|I.zt O O<|I.zf Vk O O<|I.z O (Y.load 3 isAgg156 O O O)<|I.zf Co O O<|I.zl 0 O O O O<|Dw O (X.call Bp8 O<|?_); refine Ab (A86 tb mb (Ah me ⟨es, clock, []⟩ (l.take k)).es (Ah me ⟨es, clock, []⟩ (l.take k)).clock l[k].m.from_ _ _ _ _ _ (I.up_5).up_5) O ?_; clear I; rintro e w30 ⟨b30, rfl, I⟩; replace I := (I.dn5).dn5; refine ⟨_, O, ⟨I.ctx, ?_⟩⟩; refine I.z O (Y.moveU O)<|I.ze O O O<|I.ze O O O<|I.za O O<|I.zg O O<|Dd<|Wq O<|Wq O<|?_; refine W.cut [(0, .pointer _), (5, .slice _ _ _), (7, .pointer _), (8, .pointer _), (10, .int _ _), (12, .slice _ _ _), (13, .int _ _), (14, .int _ _)] (fun x : Bool => [(52, .bool x)]) (fun x w => x = decide (¬ Yd me (Ah me ⟨es, clock, []⟩ (l.take k)) l[k]) ∧ St w0 F0 w (Aa p8 (Pq l[k].m l[k].A l[k].cap) 103 :: Aa p7 (hdC l[k]) 138 :: Af (.slice A5 ((Ah me ⟨es, clock, []⟩ (l.take k)).out).length c5) 138 15 ((Ah me ⟨es, clock, []⟩ (l.take k)).out).length (Ae hdC ((Ah me ⟨es, clock, []⟩ (l.take k)).out)) :: frR b T p s A cap [.int .i64 me, .pointer (some ⟨tb, 0, none⟩)] :: Aa tb [.map (some mb)] 204 :: C9 ikE nrV mb (knE me (Ah me ⟨es, clock, []⟩ (l.take k)) l[k]) (knC me (Ah me ⟨es, clock, []⟩ (l.take k)) l[k]) :: L) G) ⟨O, O, O, O, O, O, O, O, trivial⟩ ?_ ?_
   rotate_left
   ·clear I; rintro b52 j w8 ⟨hb52, I⟩; cases b52
    ·replace hb52 := dF hb52; refine Wu O O<|Wk O<|Wq O<|?_; refine W.cut [(0, .pointer _), (5, .slice _ _ _), (7, .pointer _), (12, .slice _ _ _), (13, .int _ _), (14, .int _ _)] (fun x : Bool => [(74, .bool x)]) (fun x w => x = decide (E3 (Cf (Ah me ⟨es, clock, []⟩ (l.take k)).es l[k].m.from_).1 l[k]) ∧ St w0 F0 w (Aa p8 (Pq l[k].m l[k].A l[k].cap) 103 :: Aa p7 (hdC l[k]) 138 :: Af (.slice A5 ((Ah me ⟨es, clock, []⟩ (l.take k)).out).length c5) 138 15 ((Ah me ⟨es, clock, []⟩ (l.take k)).out).length (Ae hdC ((Ah me ⟨es, clock, []⟩ (l.take k)).out)) :: frR b T p s A cap [.int .i64 me, .pointer (some ⟨tb, 0, none⟩)] :: Aa tb [.map (some mb)] 204 :: C9 ikE nrV mb (knE me (Ah me ⟨es, clock, []⟩ (l.take k)) l[k]) (knC me (Ah me ⟨es, clock, []⟩ (l.take k)) l[k]) :: L) G) ⟨O, O, O, O, O, O, trivial⟩ ?_ ?_
     rotate_left
     ·clear I; rintro b74 j w9 ⟨hb74, I⟩; have hgo := Decidable.not_not.1 hb52; cases b74
      ·replace hb74 := dF hb74; refine Wu O O<|Wk O<|Wr O<|I.j O O O (by omega)<|I.u O O<|Od O<|?_; have e2 : (Ah me ⟨es, clock, []⟩ (l.take (k + 1))).out = (Ah me ⟨es, clock, []⟩ (l.take k)).out := by rw [Dj me _ l k hk1]; exact if_neg (fun h => hb74 h.2)
       have e3 : (Ah me ⟨es, clock, []⟩ (l.take (k + 1))).es = knE me (Ah me ⟨es, clock, []⟩ (l.take k)) l[k] := by rw [Dj me _ l k hk1]; rfl
       have e4 : (Ah me ⟨es, clock, []⟩ (l.take (k + 1))).clock = knC me (Ah me ⟨es, clock, []⟩ (l.take k)) l[k] := by rw [Dj me _ l k hk1]; rfl
       refine ⟨(k + 1, (A5, c5)), ⟨?_, O, trivial⟩, ⟨O, O, O, trivial⟩, ⟨by omega, by rw [e2, e3, e4]; exact (I.dr 2)⟩, by dsimp only at *; omega⟩; rw [e2]; rfl
      ·replace hb74 := dT hb74; refine Wt rfl rfl<|Wr rfl<|I.s rfl rfl<|I.y rfl (Y.loadA 1 isAgg138 sizeOf138 rfl rfl rfl rfl)<|Ow rfl (X.lit1 I underlying97 sizeOf138 zeroValue138 rfl rfl rfl fun p77 w77 I => Ow rfl (X.app I 3 0 underlying97 V4 rfl rfl rfl rfl rfl rfl rfl rfl (by unfold maxLen; omega) (by omega) fun A78 c78 w78 I => ?_)); refine I.y O (Y.assignS O)<|Od O<|Wr O<|I.j O O O (by omega)<|I.u O O<|Od O<|?_; have e2 : (Ah me ⟨es, clock, []⟩ (l.take (k + 1))).out = (Ah me ⟨es, clock, []⟩ (l.take k)).out ++ [l[k]] := by rw [Dj me _ l k hk1]; exact if_pos ⟨hgo, hb74⟩
       have e3 : (Ah me ⟨es, clock, []⟩ (l.take (k + 1))).es = knE me (Ah me ⟨es, clock, []⟩ (l.take k)) l[k] := by rw [Dj me _ l k hk1]; rfl
       have e4 : (Ah me ⟨es, clock, []⟩ (l.take (k + 1))).clock = knC me (Ah me ⟨es, clock, []⟩ (l.take k)) l[k] := by rw [Dj me _ l k hk1]; rfl
       have e5 : ((Ah me ⟨es, clock, []⟩ (l.take k)).out ++ [l[k]]).length = (Ah me ⟨es, clock, []⟩ (l.take k)).out.length + 1 := by simp
       have e6 : Ae hdC ((Ah me ⟨es, clock, []⟩ (l.take k)).out ++ [l[k]]) = Ae hdC (Ah me ⟨es, clock, []⟩ (l.take k)).out ++ hdC l[k] := by rw [Cy]; simp [Ae]
       refine ⟨(k + 1, (A78, c78)), ⟨?_, O, trivial⟩, ⟨O, O, O, trivial⟩, ⟨by omega, by rw [e2, e3, e4, e5, e6]; exact (I.dr 3)⟩, by dsimp only at *; omega⟩; rw [e2, e5]; rfl
     refine Wr O<|I.f Ha O O<|I.l 0 O O O O<|I.Y O O O (fun b55 hb55 => I.b O O<|?_); cases b55
     ·replace hb55 := dF hb55; refine On O<|On O<|On O<|I.k O O O<|I.b O O<|I.f Ha O O<|I.l 0 O O O O<|I.Y O O O (fun b64 hb64 => I.b O O<|?_); cases b64
      ·replace hb64 := dF hb64; refine On O<|On O<|On O<|I.k O O O<|I.b O O<|On O<|On O<|I.k O O O<|I.k O O O<|Od O<|?_; exact ⟨_, ⟨rfl, trivial⟩, ⟨rfl, rfl, rfl, rfl, rfl, rfl, trivial⟩, (decide_eq_false (by unfold E3; omega)).symm, I⟩
      ·replace hb64 := dT hb64; refine I.f Co O O<|I.l 0 O O O O<|I.W O O O (fun b68 hb68 => I.k O O O<|I.b O O<|?_); cases b68
       ·replace hb68 := dF hb68; refine On O<|On O<|I.k O O O<|I.k O O O<|Od O<|?_; exact ⟨_, ⟨rfl, trivial⟩, ⟨rfl, rfl, rfl, rfl, rfl, rfl, trivial⟩, (decide_eq_false (by unfold E3; omega)).symm, I⟩
       ·replace hb68 := dT hb68; refine I.u O O<|I.V O O O (fun b72 hb72 => I.k O O O<|I.k O O O<|Od O<|?_); exact ⟨_, ⟨rfl, trivial⟩, ⟨rfl, rfl, rfl, rfl, rfl, rfl, trivial⟩, hb72.trans (decide_eq_decide.2 (by unfold E3; omega)), I⟩
     ·replace hb55 := dT hb55; refine I.f Co O O<|I.l 0 O O O O<|I.v O O O (fun b59 hb59 => I.k O O O<|I.b O O<|?_); cases b59
      ·replace hb59 := dF hb59; refine I.f Ha O O<|I.l 0 O O O O<|I.Y O O O (fun b64 hb64 => I.b O O<|?_); cases b64
       ·replace hb64 := dF hb64; refine On O<|On O<|On O<|I.k O O O<|I.b O O<|On O<|On O<|I.k O O O<|I.k O O O<|Od O<|?_; exact ⟨_, ⟨rfl, trivial⟩, ⟨rfl, rfl, rfl, rfl, rfl, rfl, trivial⟩, (decide_eq_false (by unfold E3; omega)).symm, I⟩
       ·replace hb64 := dT hb64; refine I.f Co O O<|I.l 0 O O O O<|I.W O O O (fun b68 hb68 => I.k O O O<|I.b O O<|?_); cases b68
        ·replace hb68 := dF hb68; refine On O<|On O<|I.k O O O<|I.k O O O<|Od O<|?_; exact ⟨_, ⟨rfl, trivial⟩, ⟨rfl, rfl, rfl, rfl, rfl, rfl, trivial⟩, (decide_eq_false (by unfold E3; omega)).symm, I⟩
        ·replace hb68 := dT hb68; refine I.u O O<|I.V O O O (fun b72 hb72 => I.k O O O<|I.k O O O<|Od O<|?_); exact ⟨_, ⟨rfl, trivial⟩, ⟨rfl, rfl, rfl, rfl, rfl, rfl, trivial⟩, hb72.trans (decide_eq_decide.2 (by unfold E3; omega)), I⟩
      ·replace hb59 := dT hb59; refine On O<|On O<|On O<|On O<|On O<|On O<|On O<|On O<|On O<|On O<|On O<|On O<|I.k O O O<|Od O<|?_; exact ⟨_, ⟨rfl, trivial⟩, ⟨rfl, rfl, rfl, rfl, rfl, rfl, trivial⟩, (decide_eq_true (by unfold E3; omega)).symm, I⟩
    ·replace hb52 := dT hb52; refine Wt O O<|W.exit O<|Wr O<|I.j O O O (by omega)<|I.u O O<|Od O<|?_; have e2 : (Ah me ⟨es, clock, []⟩ (l.take (k + 1))).out = (Ah me ⟨es, clock, []⟩ (l.take k)).out := by rw [Dj me _ l k hk1]; exact if_neg (fun h => hb52 h.1)
     have e3 : (Ah me ⟨es, clock, []⟩ (l.take (k + 1))).es = knE me (Ah me ⟨es, clock, []⟩ (l.take k)) l[k] := by rw [Dj me _ l k hk1]; rfl
     have e4 : (Ah me ⟨es, clock, []⟩ (l.take (k + 1))).clock = knC me (Ah me ⟨es, clock, []⟩ (l.take k)) l[k] := by rw [Dj me _ l k hk1]; rfl
     refine ⟨(k + 1, (A5, c5)), ⟨?_, O, trivial⟩, ⟨O, O, O, trivial⟩, ⟨by omega, by rw [e2, e3, e4]; exact (I.dr 2)⟩, by dsimp only at *; omega⟩; rw [e2]; rfl
   refine I.dv [17,18,19] (T0 [0,1,2,3,4,5,6,7,8,9,10,11,12,13,14,15,16] (T1 [17,18,19] .nil)) O (by kernel_rfl) O (by kernel_rfl) fun wd I => ?_; refine I.zb O O<|I.zb O O<|?_; cases b22
   ·replace hb22 := dF hb22; refine I.zf Co O O<|I.zl 0 O O O O<|I.zp O O<|I.zt O O<|I.zf Ahq O O<|I.zl 3 O O O O<|Drw.yb O O O I.ctx (Y.eql O O) (fun b41 hb41 => I.zk O O O<|I.zb O O<|?_); cases b41
    ·replace hb41 := dF hb41; refine I.zp O O<|I.zt O O<|I.zf Vk O O<|I.z O (Y.load 3 isAgg156 O O O)<|I.zf Co O O<|I.zl 0 O O O O<|Drw.z O O O O (X.call Bp9 O<|?_); refine Ab (Aoq tb mb (Ah me ⟨es, clock, []⟩ (l.take k)).es (Ah me ⟨es, clock, []⟩ (l.take k)).clock l[k].m.from_ _ _ _ _ _ (I.up_5).up_5) O ?_; clear I; rintro e w50 ⟨rfl, I⟩; replace I := (I.dn5).dn5; refine ⟨_, O, ?_⟩; refine Drw.zyb O O O O I.ctx (Y.neq O O) (fun b51 hb51 => Drw.zy O O O O I.ctx (Y.pB O O)<|Dd<|?_); have hsk : ¬ J5 me (Ah me ⟨es, clock, []⟩ (l.take k)) l[k] := fun h => h.elim hb22 hb41; have e1 : knE me (Ah me ⟨es, clock, []⟩ (l.take k)) l[k] = Jk (Ah me ⟨es, clock, []⟩ (l.take k)).es l[k].m.from_ (Ah me ⟨es, clock, []⟩ (l.take k)).clock := if_neg hsk; have e2 : knC me (Ah me ⟨es, clock, []⟩ (l.take k)) l[k] = O9 (Ah me ⟨es, clock, []⟩ (l.take k)).es l[k].m.from_ (Ah me ⟨es, clock, []⟩ (l.take k)).clock := if_neg hsk; exact ⟨_, ⟨O, trivial⟩, ⟨O, O, O, O, O, O, O, O, trivial⟩, hb51.trans (decide_eq_decide.2 ⟨fun h h2 => h h2.2, fun h h2 => h ⟨hsk, h2⟩⟩), by rw [e1, e2]; exact I⟩
    ·replace hb41 := dT hb41; refine I.o O<|I.o O<|I.o O<|I.o O<|I.o O<|I.o O<|Drw.noX O O O I.ctx<|Drw.noX O O O I.ctx<|Drw.zy O O O O I.ctx (Y.pB O O)<|Dd<|?_; have hsk : J5 me (Ah me ⟨es, clock, []⟩ (l.take k)) l[k] := Or.inr hb41; have e1 : knE me (Ah me ⟨es, clock, []⟩ (l.take k)) l[k] = (Ah me ⟨es, clock, []⟩ (l.take k)).es := if_pos hsk; have e2 : knC me (Ah me ⟨es, clock, []⟩ (l.take k)) l[k] = (Ah me ⟨es, clock, []⟩ (l.take k)).clock := if_pos hsk
     have hx : true = decide (¬ Yd me (Ah me ⟨es, clock, []⟩ (l.take k)) l[k]) := by
      have hng : ¬ Yd me (Ah me ⟨es, clock, []⟩ (l.take k)) l[k] := fun h => h.1 hsk; exact (decide_eq_true hng).symm
     exact ⟨true, ⟨O, trivial⟩, ⟨O, O, O, O, O, O, O, O, trivial⟩, hx, by rw [e1, e2]; exact I⟩
   ·replace hb22 := dT hb22; refine I.o O<|I.o O<|I.o O<|I.o O<|I.o O<|I.o O<|I.o O<|I.zk O O O<|I.zb O O<|I.o O<|I.o O<|I.o O<|I.o O<|I.o O<|I.o O<|Drw.noX O O O I.ctx<|Drw.noX O O O I.ctx<|Drw.zy O O O O I.ctx (Y.pB O O)<|Dd<|?_; have hsk : J5 me (Ah me ⟨es, clock, []⟩ (l.take k)) l[k] := Or.inl hb22; have e1 : knE me (Ah me ⟨es, clock, []⟩ (l.take k)) l[k] = (Ah me ⟨es, clock, []⟩ (l.take k)).es := if_pos hsk; have e2 : knC me (Ah me ⟨es, clock, []⟩ (l.take k)) l[k] = (Ah me ⟨es, clock, []⟩ (l.take k)).clock := if_pos hsk
    have hx : true = decide (¬ Yd me (Ah me ⟨es, clock, []⟩ (l.take k)) l[k]) := by
     have hng : ¬ Yd me (Ah me ⟨es, clock, []⟩ (l.take k)) l[k] := fun h => h.1 hsk; exact (decide_eq_true hng).symm
    exact ⟨true, ⟨O, trivial⟩, ⟨O, O, O, O, O, O, O, O, trivial⟩, hx, by rw [e1, e2]; exact I⟩
theorem Xb {S ρ ty} {parts : Array (Nat × Operand)} {a b f g h j k m n o d e q r t : Int} {u : Bool} {v y : Int} {z : Bool} {a1 : Option Addr} {d1 b1 : Nat} {e1 f1 g1 x1 : Int} {x2 : Option Addr} (hp : (parts.toList.map fun x => (x.1, ev ρ x.2)) = [(0, .agg #[.int .i64 a, .int .i64 b, .int .i64 f, .int .i64 g, .int .i64 h, .int .i64 j, .int .i64 k, .int .i64 m, .int .i64 n, .int .i64 o, .int .i64 d, .int .i64 e, .int .i64 q, .int .i64 r, .int .i64 t, Value.bool u, .int .i64 v, .int .i64 y, Value.bool z, Value.slice a1 d1 b1, .int .i64 e1, .int .i64 f1, .int .i64 g1]), (1, .int .i64 x1), (2, Value.pointer x2)]) : Y Tryz.prog S ρ (.build 158 parts) ty (.agg #[.int .i64 a, .int .i64 b, .int .i64 f, .int .i64 g, .int .i64 h, .int .i64 j, .int .i64 k, .int .i64 m, .int .i64 n, .int .i64 o, .int .i64 d, .int .i64 e, .int .i64 q, .int .i64 r, .int .i64 t, Value.bool u, .int .i64 v, .int .i64 y, Value.bool z, Value.slice a1 d1 b1, .int .i64 e1, .int .i64 f1, .int .i64 g1, .int .i64 x1, Value.pointer x2]) :=
 Y.build hp fun w => by simp [Instr.build, go_sem]
theorem Fl : FA 103 10 13 := fun _ _ => by simp [Instr.fieldAt, Instr.sureAddr, go_sem]
theorem C7 : FA 158 0 0 := fun _ _ => by simp [Instr.fieldAt, Instr.sureAddr, go_sem]
theorem Bw3 : CF 90 := fun _ _ => by simp [go_sem]
theorem Bpz : CF 185 := fun _ _ => by simp [go_sem]
theorem Ai7 : (Tryz.prog.info? 103).map (fun i => (i.zero, i.size, i.bytes)) = some (some (.agg #[Value.int .i64 0, Value.int .i64 0, Value.int .i64 0, Value.int .i64 0, Value.int .i64 0, Value.int .i64 0, Value.bool false, Value.bool false, Value.int .i64 0, Value.int .i64 0, Value.int .i64 0, Value.int .i64 0, Value.int .i64 0, Value.slice none 0 0]), 14, 120) := by kernel_rfl
theorem A15 (p : Par) (me : Int) (s : Stt) (A : Option Addr) (cap : Nat) (hT : Bn s.tab) (w0 w : World) (F0 : List Nat) (L G : List Res) (I : St w0 F0 w L G) (hr : Rds [] G (.slice A (s.tab).length cap) (s.tab).length (lcs (s.tab))) :
  Calls Tryz.prog 73 #[.agg #[.int .i64 p.N, .int .i64 p.F, .int .i64 p.D, .int .i64 p.Beat, .int .i64 p.Rho, .int .i64 p.Delay, .int .i64 p.Jitter, .int .i64 p.Eps, .int .i64 p.Mu, .int .i64 p.Hold, .int .i64 p.Pulse, .int .i64 p.Second], .int .i64 me, .agg #[.int .i64 s.lo, .int .i64 s.hi, .int .i64 s.time, .bool s.set, .int .i64 s.held, .int .i64 s.hops, .bool s.good, .slice A s.tab.length cap, .int .i64 s.st, .int .i64 s.sn, .int .i64 s.life]] w fun e w' => ∃ b A' c' tb mb, e = .returned (.pointer (some ⟨b, 0, none⟩)) ∧ St w0 F0 w' (frR b 158 p (Bf p s) A' c' [.int .i64 me, .pointer (some ⟨tb, 0, none⟩)] :: Aa tb [.map (some mb)] 204 :: C9 ikE nrV mb ([]) (0) :: L) (Af (.slice A' ((Bf p s).tab).length c') 114 2 ((Bf p s).tab).length (lcs ((Bf p s).tab)) :: G) := by
 refine W.func func73 O ntmps73 O<|Wh O<|Ow O (X.boxA I O fun p3 w3 I => Ow O (X.boxA I O fun p5 w5 I => I.y O (Y.assignP O)<|Od O<|Wq O<|W.drawn O (by kernel_rfl) (Ctx _ _ (_) (_)) [] (.op 0 0 (.op 1 0 (.op 2 0 (.op 5 0 (.op 3 1 (.op 4 0 (.op 6 1 (.op 7 0 (.op 8 1 (.op 9 0 .nil)))))))))) O (by kernel_rfl) I.drew.ctx<|?_)); replace I := I.drew; generalize World.drew _ = wd at I ⊢; refine I.z O (Y.loadA 1 isAgg23 sizeOf23 O O O O)<|I.z O (Y.loadA 1 isAgg23 sizeOf23 O O O O)<|I.z O (Y.loadA 0 isAgg57 sizeOf57 O O O O)<|I.zu O O<|Dw O (X.call Bj1 O<|?_); refine Ab (Sj p s _ _ hT.1 hT.2 _ _ _ _ _ I hr) O ?_; clear I; rintro e w10 ⟨A10, c10, rfl, I⟩; refine ⟨_, O, ⟨(I.cxg 0 1), ?_⟩⟩; refine Dq O (I.cxg 0 1) (Xd O)<|Dw O (X.call Bw3 O<|?_); refine Ab (A0z _ _ _ _ _ I) O ?_; clear I; rintro e w13 ⟨tb, mb, rfl, I⟩; refine ⟨_, O, ⟨(I.cxg 2 1), ?_⟩⟩; refine Dq O (I.cxg 2 1) (Xb O)<|Dw O (X.boxA I O fun p15 w15 I => ⟨(I.cxg 3 1), Dq O (I.cxg 3 1) (Y.assignP O)<|Dd<|We O<|⟨_, Ac.one results73 O, ?_⟩⟩); exact ⟨p15, A10, c10, tb, mb, O, (I.sub (.cons_cons _ (.cons_cons _ (.cons_cons _ (.cons _ (.cons _ (.refl _)))))))⟩
end
section
open Tryz Go.RowKit YtaanjifekgfemaaGreat.K YtaanjifekgfemaaGreat.W
def Oy (p : Par) (h : Hd) : Hd := { h with m := { h.m with slo := (way p ⟨h.m.slo, h.m.shi⟩ h.age).lo, shi := (way p ⟨h.m.slo, h.m.shi⟩ h.age).hi } }
def Iu (p : Par) (acc : List Hd) (h : Hd) : List Hd := if h.m.shi < h.m.slo then acc else acc ++ [Oy p h]
def Cg (p : Par) (l : List Hd) : List Hd := l.foldl (Iu p) []
theorem R1 (p : Par) (l : List Hd) (k : Nat) (h : k < l.length) : Cg p (l.take (k + 1)) = Iu p (Cg p (l.take k)) l[k] := by
 unfold Cg; rw [List.take_succ_eq_append_getElem h, List.foldl_append]; rfl
theorem Ng (p : Par) (l : List Hd) : (Cg p l).length ≤ l.length := by
  have : ∀ (l acc : List Hd), (l.foldl (Iu p) acc).length ≤ acc.length + l.length := by
    intro l
    induction l with
    | nil => intro acc; simp
    | cons x l ih =>
      intro acc; refine Nat.le_trans (ih _) ?_; unfold Iu; split
      · simp only [List.length_cons]; omega
      · simp only [List.length_append, List.length_cons, List.length_nil]; omega
  have := this l []; unfold Cg; simpa using this
theorem Aq9 {p : Par} {l : List Hd} {x : Hd} (h : x ∈ Cg p l) : ∃ y ∈ l, x = Oy p y := by
  have : ∀ (l acc : List Hd), x ∈ l.foldl (Iu p) acc → x ∈ acc ∨ ∃ y ∈ l, x = Oy p y := by
    intro l
    induction l with
    | nil => intro acc h; exact .inl h
    | cons z l ih =>
      intro acc h; rcases ih _ h with h | ⟨y, hy, e⟩
      · unfold Iu at h; split at h
        · exact .inl h
        · rcases List.mem_append.1 h with h | h
          · exact .inl h
          · rw [List.mem_singleton] at h; exact .inr ⟨z, List.mem_cons_self, h⟩
      · exact .inr ⟨y, List.mem_cons_of_mem _ hy, e⟩
  rcases this l [] h with h | h
  · cases h
  · exact h
def Ep (nx : Stt) (h : Hd) : Stt := { nx with lo := h.m.slo, hi := h.m.shi, hops := h.m.hops + 1, good := true, held := Dk h.m.held, tab := if Fo h.m.tab then h.m.tab else nx.tab }
def Er (p : Par) (l : List Hd) (nx : Stt) : Stt := match B2 p (Cg p l) with
  | none => nx
  | some h => Ep nx h
def Lq (G : List Res) (l : List Hd) : Prop := ∀ h ∈ l, Bn h.m.tab ∧ Rds [] G (.slice h.A h.m.tab.length h.cap) h.m.tab.length (lcs h.m.tab)
end
section
open Tryz Go.RowKit YtaanjifekgfemaaGreat.K YtaanjifekgfemaaGreat.W
attribute [local irreducible] Bg Ak Bb sub neg mag Da mul Dy
set_option maxHeartbeats 2000000 in
theorem Ac1 (b : Nat) (T : TypeId) (p : Par) (hp : p.Ok) (s : Stt) (A : Option Addr) (cap : Nat) (rest : List Value) (l : List Hd) (hl : l.length ≤ 1000000) (B : Option Addr) (cb : Nat) (nx : Stt) (A2 : Option Addr) (c2 : Nat) (w0 w : World) (F0 : List Nat) (L G : List Res) (I : St w0 F0 w (frR b T p s A cap rest :: L) G) (hr : Rds L G (.slice B l.length cb) l.length (Ae hdC l)) (hfit : Lq G l) (hrx : Rds [] G (.slice A2 (nx.tab).length c2) (nx.tab).length (lcs (nx.tab))) :
  Calls Tryz.prog 177 #[.pointer (some ⟨b, 0, none⟩), .slice B l.length cb, .agg #[.int .i64 nx.lo, .int .i64 nx.hi, .int .i64 nx.time, .bool nx.set, .int .i64 nx.held, .int .i64 nx.hops, .bool nx.good, .slice A2 nx.tab.length c2, .int .i64 nx.st, .int .i64 nx.sn, .int .i64 nx.life]] w fun e w' => ∃ ok A3 c3, e = .returned (.tuple #[.agg (Fk (Er p l nx) A3 c3).toArray, .bool ok]) ∧ ok = decide ((B2 p (Cg p l)).isSome = true) ∧ Rds [] G (.slice A3 ((Er p l nx).tab).length c3) ((Er p l nx).tab).length (lcs ((Er p l nx).tab)) ∧ St w0 F0 w' (frR b T p s A cap rest :: L) G := by
 replace hr := hr.cons (frR b T p s A cap rest); refine W.func func177 O ntmps177 O<|Wh O<|Ow O (X.boxA I O fun p5 w5 I => Ow O (X.allocA I zeroValue57 fun p6 w6 I => I.g O O<|Ds O O<|I.y O (Y.assignS O)<|Od O<|Wq O<|Wh O<|?_)); replace I := I.nilRow 103 14; refine I.s O O<|I.y O (Y.lenS underlying97 O)<|I.u O O<|Od O<|Wb O<|?_; refine W.loop (γ := Nat × (Option Addr × Nat)) [(0, .pointer _), (5, .pointer _), (6, .pointer _), (14, .slice _ _ _), (15, .int _ _)] (fun x => [(8, .slice x.2.1 (Cg p (l.take x.1)).length x.2.2), (16, .int .i64 (x.1 : Int))]) (fun x w => x.1 ≤ l.length ∧ St w0 F0 w (Af (.slice x.2.1 (Cg p (l.take x.1)).length x.2.2) 103 14 (Cg p (l.take x.1)).length (Ae mhC (Cg p (l.take x.1))) :: Aa p6 (Fk ⟨0, 0, 0, false, 0, 0, false, [], 0, 0, 0⟩ none 0) 57 :: Aa p5 (Fk (nx) A2 c2) 57 :: frR b T p s A cap rest :: L) G) (fun x => l.length - x.1) ((0, (none, 0))) O ⟨O, O, O, O, O, trivial⟩ ?_ ?_ ?_
 ·exact ⟨O, O, trivial⟩
 ·exact ⟨by omega, I⟩
 ·clear I; rintro ⟨k, ⟨A8, c8⟩⟩ j w5 ⟨hk, I⟩; refine Wh O<|I.v O O O (fun b17 hb17 => Od O<|Wq O<|?_); cases b17
  ·replace hb17 := dF hb17; refine Wu O O<|W.exit O<|Wq O<|?_; obtain rfl : k = l.length := by omega
   have hgl := Ng p (l.take l.length); rw [List.length_take] at hgl; replace hgl : (Cg p (l.take l.length)).length ≤ 1000000 := by omega
   have e1 : l.take l.length = l := List.take_length; refine Wr O<|I.p O O<|I.t O O<|I.f C7 O O<|I.f Ej O O<|I.y O (Y.loadA 3 isAgg23 sizeOf23 O O O O)<|I.s O O<|Oc O Bpz O ?_; refine Ab (Aa9 p (Cg p (l.take l.length)) hgl A8 c8 _ _ _ _ _ I (Rds.rowL 0 O)) O ?_; clear I; rintro e w49 ⟨b51, rfl, hb51, I⟩; refine ⟨_, O, ?_⟩; refine I.y O (Y.moveU O)<|I.e O O O<|I.e O O O<|Ow O (X.allocA I zeroValue103 fun p12 w12 I => Ow O (X.storeS I 0 sizeOf103 O O O O O (lZ O) O O fun _ I => I.g O O<|Od O<|Wq O<|Wh O<|I.b O O<|?_)); cases b51
   ·replace hb51 := dF hb51; refine I.q O O<|Od O<|Wt O O<|Wh O<|I.y O (Y.loadA 3 isAgg57 sizeOf57 O O O O)<|Ow O (X.storeS I 2 sizeOf57 O O O O O (lZ O) O O fun _ I => I.g O O<|Od O<|We O<|⟨_, Ac.cellTmp results177 O (Bd isAgg57 sizeOf57 2 I O O) O, ?_⟩); rw [e1] at hb51; have hn : B2 p (Cg p l) = none := by cases hc : B2 p (Cg p l) with | none => rfl | some z => rw [hc] at hb51; exact absurd O hb51
    have hq : Er p l nx = nx := by unfold Er; rw [hn]
    exact ⟨false, A2, c2, congrArg (fun q => Ending.returned (.tuple #[.agg (Fk q A2 c2).toArray, .bool false])) hq.symm, by rw [hn]; rfl, by rw [hq]; exact hrx, (I.dr 4)⟩
   ·replace hb51 := dT hb51; refine I.q O O<|Od O<|Wu O O<|Wk O<|Wq O<|?_; replace I := I.up_3; obtain ⟨hd, hh⟩ := Option.isSome_iff_exists.1 hb51; have hu := Ve hh; obtain ⟨y, hy, hyd⟩ := Aq9 hu.1; have hyf := hfit y (by rwa [e1] at hy); have hdf : Bn hd.m.tab ∧ Rds [] G (.slice hd.A hd.m.tab.length hd.cap) hd.m.tab.length (lcs hd.m.tab) := by rw [hyd]; exact hyf
    have hho : 0 ≤ hd.m.hops ∧ hd.m.hops < p.D := ⟨hu.2.2.2.1, hu.2.2.2.2.1⟩; have hpD := hp.D; rw [hh] at I; refine I.dw 1 [] (T0 [0,1,2,3,4,5,6,8] (T1 [7,9] (.op 10 0 (.op 11 1 (.op 12 0 (.op 13 1 (.op 14 0 (.op 15 1 .nil)))))))) O (by kernel_rfl) O (by kernel_rfl) fun wd I => ?_; refine Dq rfl (I.cx 1) (Y.fieldAddr D0 rfl)<|Dq rfl (I.cx 1) (Y.loadA 0 isAgg53 sizeOf53 rfl rfl rfl rfl)<|Dq rfl (I.cx 1) (Y.fieldAddr Hb rfl)<|Dq rfl (I.cx 1) (Y.load 0 isAgg3 rfl rfl rfl)<|Dq rfl (I.cx 1) (Y.addI rfl rfl (by show _ ≤ hd.m.hops + 1 ∧ hd.m.hops + 1 ≤ _; omega))<|?_; refine Dq O (I.cx 1) (Y.fieldAddr Ib O)<|Dq O (I.cx 1) (Y.load 0 isAgg3 O O O)<|Dq O (I.cx 1) (Y.fieldAddr Br O)<|Dw O (X.ret Ah3 (Jo _ _ _ _ _ _ I ) O fun _ I => ⟨(I.cx 1), Dw O (X.storeS I 0 sizeOf53 O O O O O (lZ O) O O fun _ I => ⟨(I.cx 1), Dq O (I.cx 1) (Y.fieldAddr B3 O)<|Dw O (X.storeV I 0 (.int _ _) sizeOf3 O O O O (lZ O) O O fun _ I => ⟨(I.cx 1), Dq O (I.cx 1) (Y.fieldAddr Bl O)<|Dw O (X.storeV I 0 (.bool _) sizeOf4 O O O O (lZ O) O O fun _ I => ⟨(I.cx 1), Dq O (I.cx 1) (Y.fieldAddr Bt O)<|Dw O (X.storeV I 0 (.int _ _) sizeOf3 O O O O (lZ O) O O fun _ I => ⟨(I.cx 1), Dd<|Wq O<|?_⟩)⟩)⟩)⟩)⟩); refine W.cut [(5, .pointer _), (6, .pointer _)] (fun _ : Option Addr × Nat => []) (fun x w => Rds [] G (.slice x.1 ((Ep nx hd).tab).length x.2) ((Ep nx hd).tab).length (lcs ((Ep nx hd).tab)) ∧ St w0 F0 w (Aa p5 (Fk (Ep nx hd) x.1 x.2) 57 :: Aa p6 (Fk ⟨0, 0, 0, false, 0, 0, false, [], 0, 0, 0⟩ none 0) 57 :: frR b T p s A cap rest :: L) G) ⟨O, O, trivial⟩ ?_ ?_
    rotate_left
    ·clear I; rintro ⟨A9, c9⟩ j w14 ⟨hr9, I⟩; refine Wh O<|I.y O (Y.loadA 0 isAgg57 sizeOf57 O O O O)<|Ow O (X.storeS I 1 sizeOf57 O O O O O (lZ O) O O fun _ I => I.g O O<|Od O<|We O<|⟨_, Ac.cellTmp results177 O (Bd isAgg57 sizeOf57 1 I O O) O, ?_⟩); rw [e1] at hh; have hq : Er p l nx = Ep nx hd := by unfold Er; rw [hh]
     exact ⟨true, A9, c9, congrArg (fun q => Ending.returned (.tuple #[.agg (Fk q A9 c9).toArray, .bool true])) hq.symm, by rw [hh]; rfl, by rw [hq]; exact hr9, (I.dr 2)⟩
    refine Wh O<|I.f Fl O O<|I.y O (Y.load 1 isAgg41 O O O)<|Ow O (X.retB Bj4 (Rg hd.m.tab _ _ hdf.1.1 hdf.1.2 _ _ _ _ _ I hdf.2.hd) O fun b69 w69 hb69 I => Od O<|?_); cases b69
    ·replace hb69 := dF hb69; refine Wu O O<|Wk O<|?_; have hq : Ep nx hd = { nx with lo := hd.m.slo, hi := hd.m.shi, hops := hd.m.hops + 1, good := true, held := Dk hd.m.held } := by unfold Ep; rw [if_neg hb69]
     exact ⟨(A2, c2), trivial, ⟨O, O, trivial⟩, by rw [hq]; exact hrx, by rw [hq]; exact (I.sub (.cons_cons _ (.cons _ (.cons _ (.cons_cons _ (.cons_cons _ (.refl _)))))))⟩
    ·replace hb69 := dT hb69; refine Wt O O<|Wr O<|I.f Fl O O<|I.y O (Y.load 1 isAgg41 O O O)<|I.f I7 O O<|Ow O (X.storeV I 0 (.slice _ _ _) sizeOf41 O O O O (lZ O) O O fun _ I => Od O<|?_); have hq : Ep nx hd = { { nx with lo := hd.m.slo, hi := hd.m.shi, hops := hd.m.hops + 1, good := true, held := Dk hd.m.held } with tab := hd.m.tab } := by unfold Ep; rw [if_pos hb69]
     exact ⟨(hd.A, hd.cap), trivial, ⟨O, O, trivial⟩, by rw [hq]; exact hdf.2, by rw [hq]; exact (I.sub (.cons_cons _ (.cons _ (.cons _ (.cons_cons _ (.cons_cons _ (.refl _)))))))⟩
  ·replace hb17 := dT hb17; refine Wt O O<|Wk O<|Wq O<|Wb O<|Wq O<|?_; have hk1 : k < l.length := by omega
   have hml := Ng p (l.take k); rw [List.length_take] at hml; refine Wr O<|I.y O (Y.indexAddr underlying97 sizeOf138 O O ((Rds.sl (((hr.cons _).cons _).cons _) I).ne (Bi B5 (by decide) (by omega))) (by omega))<|?_; refine I.y O (Y.loadSlA isAgg138 sizeOf138 O (((hr.cons _).cons _).cons _) (Bo B5 l k hk1) (B5 _))<|Ow O (X.allocA I zeroValue138 fun p10 w10 I => Ow O (X.storeS I 0 sizeOf138 O O O O O (lZ O) O O fun _ I => Ds O O<|I.f Dg O O<|I.y O (Y.loadA 0 isAgg103 sizeOf103 O O O O)<|Ow O (X.allocA I zeroValue103 fun p11 w11 I => Ow O (X.storeS I 0 sizeOf103 O O O O O (lZ O) O O fun _ I => Ds O O<|I.f D0 O O<|I.y O (Y.loadA 0 isAgg53 sizeOf53 O O O O)<|Ow O (X.retB A9x (Ld _ _ _ _ _ _ _ I ) O fun b24 w24 hb24 I => ?_))))); cases b24
   ·replace hb24 := dF hb24; refine I.q O O<|Od O<|Wt O O<|Wq O<|W.drawn O (by kernel_rfl) (Ctx _ _ (_) (_)) [11] (.op 0 0 (.op 1 0 (.op 2 0 (.op 3 0 (.op 4 0 (.op 5 0 (.op 6 0 (.op 7 0 (.op 8 0 (.op 9 1 (.op 10 0 (.op 11 1 .nil)))))))))))) O (by kernel_rfl) I.drew.ctx<|?_; replace I := I.drew; generalize World.drew _ = wd at I ⊢; refine I.zp rfl rfl<|I.zt rfl rfl<|I.zf C7 rfl rfl<|I.zf Ej rfl rfl<|I.z rfl (Y.loadA 5 isAgg23 sizeOf23 rfl rfl rfl rfl)<|I.zf D0 rfl rfl<|I.z rfl (Y.loadA 0 isAgg53 sizeOf53 rfl rfl rfl rfl)<|I.zf Vj rfl rfl<|I.zl 1 rfl rfl rfl rfl<|Dw rfl (X.ret Ah2 (Qg p _ _ _ _ _ _ _ _ I ) rfl fun _ I => ⟨I.ctx, I.zf D0 rfl rfl<|Drw.z rfl rfl rfl rfl (X.storeS I 0 sizeOf53 rfl rfl rfl rfl rfl (lZ rfl) rfl rfl fun _ I => Dd<|Wr rfl<|I.s rfl rfl<|I.y rfl (Y.loadA 0 isAgg103 sizeOf103 rfl rfl rfl rfl)<|Ow rfl (X.lit1 I underlying90 sizeOf103 zeroValue103 rfl rfl rfl fun p39 w39 I => Ow rfl (X.app I 3 0 underlying90 Ai7 rfl rfl rfl rfl rfl rfl rfl rfl (by dsimp only; unfold maxLen; omega) (by dsimp only; omega) fun A40 c40 w40 I => ?_)))⟩); refine I.y O (Y.assignS O)<|Od O<|Wr O<|I.j O O O (by omega)<|I.u O O<|Od O<|?_; have e2 : Cg p (l.take (k + 1)) = Cg p (l.take k) ++ [Oy p l[k]] := by rw [R1 p l k hk1]; exact if_neg hb24
    have e5 : (Cg p (l.take k) ++ [Oy p l[k]]).length = (Cg p (l.take k)).length + 1 := by simp
    have e6 : Ae mhC (Cg p (l.take k) ++ [Oy p l[k]]) = Ae mhC (Cg p (l.take k)) ++ mhC (Oy p l[k]) := by rw [Cy]; simp [Ae]
    refine ⟨(k + 1, (A40, c40)), ⟨?_, O, trivial⟩, ⟨O, O, O, O, O, trivial⟩, ⟨by omega, by rw [e2, e5, e6]; exact (I.dr 3)⟩, by dsimp only at *; omega⟩; rw [e2, e5]; rfl
   ·replace hb24 := dT hb24; refine I.q O O<|Od O<|Wu O O<|Wk O<|Wr O<|I.j O O O (by omega)<|I.u O O<|Od O<|?_; have e2 : Cg p (l.take (k + 1)) = Cg p (l.take k) := by rw [R1 p l k hk1]; exact if_pos hb24
    refine ⟨(k + 1, (A8, c8)), ⟨?_, O, trivial⟩, ⟨O, O, O, O, O, trivial⟩, ⟨by omega, by rw [e2]; exact (I.dr 2)⟩, by dsimp only at *; omega⟩; rw [e2]; rfl
end
section
open Tryz Go.RowKit YtaanjifekgfemaaGreat.K YtaanjifekgfemaaGreat.W
def skE (s : ByteArray) : Value := .string s
abbrev CT := List (Ent ByteArray Int)
def Qi (n : Int) (es : CT) : Prop := ∀ e ∈ es, 0 ≤ e.val ∧ e.val ≤ n
theorem Bc0 {es : CT} {n : Int} (h : Qi n es) (hn : 0 ≤ n) (k : ByteArray) : 0 ≤ (Cb k es).getD 0 ∧ (Cb k es).getD 0 ≤ n := by
  induction es with
  | nil => exact ⟨Int.le_refl _, hn⟩
  | cons x es ih =>
    unfold Cb; split
    · exact h x List.mem_cons_self
    · exact ih (fun e he => h e (List.mem_cons_of_mem _ he))
theorem Qi.put {es : CT} {n : Int} (h : Qi n es) (k : ByteArray) (v : Int) (hv : 0 ≤ v ∧ v ≤ n + 1) (clock : Nat) : Qi (n + 1) (H5 k v clock es) := by
  have hs : ∀ es : CT, Qi n es → Qi (n + 1) (Ki k v es) := by
    intro es
    induction es with
    | nil => intro _ e he; cases he
    | cons x es ih =>
      intro h e he; unfold Ki at he; split at he
      · rcases List.mem_cons.1 he with rfl | he
        · exact hv
        · have := h e (List.mem_cons_of_mem _ he); omega
      · rcases List.mem_cons.1 he with rfl | he
        · have := h e List.mem_cons_self; omega
        · exact ih (fun e he => h e (List.mem_cons_of_mem _ he)) e he
  unfold H5; split
  · exact hs es h
  · intro e he; rcases List.mem_append.1 he with he | he
    · have := h e he; omega
    · rw [List.mem_singleton] at he; subst he; exact hv
def Mm (l : List ByteArray) : List Value := l.map Value.string
theorem K8 {l : List ByteArray} {k : Nat} (h : k < l.length) : (Mm l)[(k : Int).toNat * 1]? = some (.string l[k]) := by
 rw [show (k : Int).toNat * 1 = k by omega]; simp [Mm, h]
end
section
open Tryz Go.RowKit YtaanjifekgfemaaGreat.K YtaanjifekgfemaaGreat.W
attribute [local irreducible] Bg Ak Bb sub neg mag Da mul Dy
theorem Azx : W5 Tryz.prog 9 skE := ⟨_, underlying9, fun k => by simp [skE, Go.MapKept.IsKey], fun a b => by
  have e : (a == b) = decide (a = b) := by rw [Bool.eq_iff_iff, decide_eq_true_eq]; exact Go.MapKept.bytes_beq a b
  simp [skE, Instr.sameNow, e]⟩
theorem Z9 (f : Int) (l : List ByteArray) (hl : l.length ≤ 1000000) (A : Option Addr) (cap : Nat) (w0 w : World) (F0 : List Nat) (L G : List Res) (I : St w0 F0 w L G) (hr : Rds L G (.slice A l.length cap) l.length (Mm l)) :
  Calls Tryz.prog 188 #[.int .i64 f, .slice A l.length cap] w fun e w' => ∃ s b, e = .returned (.tuple #[.string s, .bool b]) ∧ (b = true → s ∈ l) ∧ St w0 F0 w' L G := by
 refine W.func func188 O ntmps188 O<|Wh O<|I.y O (Y.assignT O)<|I.g O O<|Ds O O<|Ow O (X.makeMap I skE ikE fun mb w15 I => I.y O (Y.assignV O)<|Od O<|Wq O<|Wh O<|I.s O O<|I.y O (Y.lenS underlying28 O)<|I.u O O<|Od O<|Wb O<|?_); refine W.loop (γ := Nat × CT × Nat) [(0, .int _ _), (1, .slice _ _ _), (6, _), (16, .slice _ _ _), (17, .int _ _)] (fun x => [(18, .int .i64 (x.1 : Int))]) (fun x w => (x.1 ≤ l.length ∧ Qi (x.1 : Int) x.2.1) ∧ St w0 F0 w (C9 skE ikE mb x.2.1 x.2.2 :: L) G) (fun x => l.length - x.1) ((0, [], 0)) O ⟨O, O, O, O, O, trivial⟩ ?_ ?_ ?_
 ·exact ⟨O, trivial⟩
 ·exact ⟨⟨by omega, fun e he => by cases he⟩, I⟩
 ·clear I; rintro ⟨k, es, clock⟩ j w3 ⟨⟨hk, hfit⟩, I⟩; dsimp only at hfit; refine Wh O<|I.v O O O (fun b19 hb19 => Od O<|Wq O<|?_); cases b19
  ·replace hb19 := dF hb19; refine Wu O O<|W.exit O<|Wh O<|I.a O O<|I.a O O<|Od O<|Wq O<|Wh O<|I.s O O<|I.y O (Y.lenS underlying28 O)<|I.u O O<|Od O<|Wb O<|?_; refine W.loop (γ := Nat × Int × Int) [(0, .int _ _), (1, .slice _ _ _), (6, _), (27, .slice _ _ _), (28, .int _ _)] (fun x => [(29, .int .i64 (x.1 : Int)), (9, .int .i64 x.2.1), (10, .int .i64 x.2.2)]) (fun x w => (x.1 ≤ l.length ∧ -1 ≤ x.2.1 ∧ x.2.1 < (l.length : Int)) ∧ St w0 F0 w (C9 skE ikE mb es clock :: L) G) (fun x => l.length - x.1) ((0, -1, 0)) O ⟨O, O, O, O, O, trivial⟩ ?_ ?_ ?_
   ·exact ⟨O, O, O, trivial⟩
   ·exact ⟨⟨by omega, by decide, by dsimp only; omega⟩, I⟩
   ·clear I; rintro ⟨k, best, count⟩ j w3 ⟨⟨hk, hb1, hb2⟩, I⟩; dsimp only at hb1 hb2; have hq1 : (k, best, count).snd.fst = best := rfl; have hq2 : (k, best, count).snd.snd = count := rfl; refine Wh O<|I.v O O O (fun b30 hb30 => Od O<|Wq O<|?_); cases b30
    ·replace hb30 := dF hb30; refine Wu O O<|W.exit O<|Wq O<|Wh O<|I.u O O<|I.v O O O (fun b49 hb49 => Od O<|?_); cases b49
     ·replace hb49 := dF hb49; refine Wu O O<|Wk O<|Wq O<|?_; obtain ⟨bn, rfl⟩ : ∃ n : Nat, best = (n : Int) := ⟨best.toNat, by omega⟩; have hbn : bn < l.length := by omega
      refine Wr rfl<|I.s rfl rfl<|I.u rfl rfl<|I.y rfl (Y.indexAddr underlying28 sizeOf9 rfl rfl ((Rds.sl (hr.cons _) I).ne (by simp [Mm]; omega)) (by omega))<|?_; refine I.y O (Y.loadSl isAgg9 O (hr.cons _) (K8 (l := l) (k := bn) hbn))<|I.y O (Y.assignT O)<|I.g O O<|Od O<|We O<|⟨_, Ac.two results188 O O, ?_⟩; exact ⟨_, true, O, fun _ => List.getElem_mem hbn, (I.dr 1)⟩
     ·replace hb49 := dT hb49; refine Wt O O<|Wh O<|I.y O (Y.assignT O)<|Ds O O<|I.y O (Y.moveT O)<|I.y O (Y.assignT O)<|I.g O O<|Od O<|We O<|⟨_, Ac.two results188 O O, ?_⟩; exact ⟨_, false, O, fun h => (by cases h), (I.dr 1)⟩
    ·replace hb30 := dT hb30; refine Wt O O<|Wk O<|Wq O<|Wb O<|Wq O<|?_; have hk1 : k < l.length := by omega
     refine Wr rfl<|I.u rfl rfl<|I.y rfl (Y.indexAddr underlying28 sizeOf9 rfl rfl ((Rds.sl (hr.cons _) I).ne (by simp [Mm]; omega)) (by omega))<|?_; refine I.y O (Y.loadSl isAgg9 O (hr.cons _) (K8 hk1))<|I.a O O<|I.y O (Y.assignT O)<|Ds O O<|I.y O (Y.moveV O)<|I.y O (Y.moveT O)<|I.y O (Y.lookupV Azx underlying311 zeroValue3 (z0 := 0) 0 O O (k := l[k]) O)<|I.a O O<|Ds O O<|I.u O O<|I.u O O<|I.V O O O (fun b39 hb39 => I.b O O<|?_); cases b39
     ·replace hb39 := dF hb39; refine On O<|On O<|On O<|I.k O O O<|Od O<|Wu O O<|Wk O<|Wr O<|I.j O O O (by omega)<|I.u O O<|Od O<|?_; exact ⟨(k + 1, best, count), ⟨O, O, O, trivial⟩, ⟨O, O, O, O, O, trivial⟩, ⟨⟨by omega, hb1, hb2⟩, I⟩, by dsimp only at *; omega⟩
     ·replace hb39 := dT hb39; refine I.u O O<|I.u O O<|I.V O O O (fun b43 hb43 => I.k O O O<|Od O<|?_); cases b43
      ·replace hb43 := dF hb43; refine Wu O O<|Wk O<|Wr O<|I.j O O O (by omega)<|I.u O O<|Od O<|?_; exact ⟨(k + 1, best, count), ⟨O, O, O, trivial⟩, ⟨O, O, O, O, O, trivial⟩, ⟨⟨by omega, hb1, hb2⟩, I⟩, by dsimp only at *; omega⟩
      ·replace hb43 := dT hb43; refine Wt O O<|Wr O<|I.u O O<|I.u O O<|I.a O O<|I.a O O<|Od O<|Wr O<|I.j O O O (by omega)<|I.u O O<|Od O<|?_; exact ⟨(k + 1, (k : Int), (Cb l[k] es).getD 0), ⟨O, O, O, trivial⟩, ⟨O, O, O, O, O, trivial⟩, ⟨⟨by omega, by show -1 ≤ (k : Int); omega, by show (k : Int) < _; omega⟩, I⟩, by dsimp only at *; omega⟩
  ·replace hb19 := dT hb19; refine Wt O O<|Wk O<|Wq O<|Wb O<|Wq O<|?_; have hk1 : k < l.length := by omega
   refine Wr rfl<|I.y rfl (Y.indexAddr underlying28 sizeOf9 rfl rfl ((Rds.sl (hr.cons _) I).ne (by simp [Mm]; omega)) (by omega))<|?_; refine I.y O (Y.loadSl isAgg9 O (hr.cons _) (K8 hk1))<|I.y O (Y.assignT O)<|Od O<|?_; have hgv := Bc0 hfit (by omega) l[k]; refine Wr rfl<|I.y rfl (Y.moveV rfl)<|I.y rfl (Y.moveT rfl)<|I.y rfl (Y.lookupV Azx underlying311 zeroValue3 (z0 := 0) 0 rfl rfl (k := l[k]) rfl)<|I.y rfl (Y.addI rfl rfl (by show _ ≤ (Cb l[k] es).getD 0 + 1 ∧ (Cb l[k] es).getD 0 + 1 ≤ _; omega))<|?_; refine Ow O (X.mapUpd Azx underlying311 I 0 O O (k := l[k]) O (v := (Cb l[k] es).getD 0 + 1) O fun _ I => Od O<|Wr O<|I.j O O O (by omega)<|I.u O O<|Od O<|?_); exact ⟨(k + 1, _, _), ⟨O, trivial⟩, ⟨O, O, O, O, O, trivial⟩, ⟨⟨by omega, hfit.put l[k] _ (by omega) clock⟩, I⟩, by dsimp only at *; omega⟩
end
section
open Tryz Go.RowKit YtaanjifekgfemaaGreat.K YtaanjifekgfemaaGreat.W
structure Un where
  who : Int
  bt : TypeId
  fb : Nat
  lb : Nat
def unC (u : Un) : List Value := [.int .i64 u.who, .iface u.bt (.pointer (some ⟨u.fb, 0, none⟩)), .pointer (some ⟨u.fb, 0, none⟩), .pointer (some ⟨u.lb, 0, none⟩)]
theorem D1 (u : Un) : (unC u).length = 4 := rfl
theorem Bf4 (u : Un) : ∀ v ∈ unC u, v.oneCell' = true := by
 intro v hv; simp only [unC, List.mem_cons, List.not_mem_nil, or_false] at hv; rcases hv with rfl | rfl | rfl | rfl <;> rfl
def wC (p : Par) (time : Int) (U V : Value) : List Value := E4 p ++ [.int .i64 time, U, V]
def isU (who : Int) (u : Un) : Bool := decide (u.who = who)
def Gz (us : List Un) (who : Int) (ub : Nat) : Option Addr := if Di (isU who) us < 0 then none else some ⟨ub, (Di (isU who) us).toNat * 4, none⟩
theorem J3 {α : Type} (p : α → Bool) (l : List α) : -1 ≤ Di p l ∧ (Di p l < l.length ∨ l = [] ∧ Di p l = -1) := by
 unfold Di; split
 ·rename_i h; exact ⟨by omega, .inl (by omega)⟩
 ·refine ⟨by omega, ?_⟩
  cases l with
  | nil => exact .inr ⟨rfl, rfl⟩
  | cons x l => exact .inl (by simp only [List.length_cons]; omega)
theorem Ai5 {α : Type} {p : α → Bool} {l : List α} (h : ¬ Di p l < 0) : Di p l < l.length := by
 rcases (J3 p l).2 with h2 | h2
 ·exact h2
 ·omega
end
section
open Tryz Go.RowKit YtaanjifekgfemaaGreat.K YtaanjifekgfemaaGreat.W
attribute [local irreducible] Bg Ak Bb sub neg mag Da mul Dy
theorem Vw : FA 86 1 12 := fun _ _ => by simp [Instr.fieldAt, Instr.sureAddr, go_sem]
theorem I8 : FA 86 2 13 := fun _ _ => by simp [Instr.fieldAt, Instr.sureAddr, go_sem]
theorem Kr : FA 96 0 0 := fun _ _ => by simp [Instr.fieldAt, Instr.sureAddr, go_sem]
theorem Bv3 : CF 62 := fun _ _ => by simp [go_sem]
theorem Bv4 : CF 63 := fun _ _ => by simp [go_sem]
theorem Vf (b : Nat) (i : Int) (m : Nat) : elt (some ⟨b, 0, none⟩) i m = ⟨b, i.toNat * m, none⟩ := by
 unfold elt; show (⟨b, 0, none⟩ : Addr).add _ = _; rw [B6, Nat.zero_add]
theorem Au0 (u : Un) (who : Int) (b : Nat) (w0 w : World) (F0 : List Nat) (L G : List Res) (I : St w0 F0 w L G) (j : Nat) (hj : L[j]? = some (Aa b [.int .i64 who] 3)) :
  Calls Tryz.prog 63 #[.agg (unC u).toArray, .pointer (some ⟨b, 0, none⟩)] w fun e w' => e = .returned (.bool (isU who u)) ∧ St w0 F0 w' L G := by
 refine W.func func63 O ntmps63 O<|Wh O<|Ow O (X.boxA I O fun p2 w2 I => I.g O O<|Ds O O<|I.f Kr O O<|I.l 0 O O O O<|I.y O (Y.load (j + 1) isAgg3 O (by simpa using hj) O)<|?_); refine I.Y O O O (fun b7 hb7 => I.g O O<|Od O<|We O<|⟨_, Ac.one results63 O, ?_⟩); exact ⟨congrArg (fun b => Ending.returned (.bool b)) hb7, (I.dr 1)⟩
theorem Nr (wb : Nat) (p : Par) (time : Int) (ub : Nat) (us : List Un) (uc : Nat) (LA : Option Addr) (nl lc : Nat) (who : Int) (hul : us.length ≤ 1000000) (w0 w : World) (F0 : List Nat) (L G : List Res) (I : St w0 F0 w (Aa wb (wC p (time) (.slice (some ⟨ub, 0, none⟩) us.length uc) (.slice LA nl lc)) 86 :: L) G) (hr : Rds L G (.slice (some ⟨ub, 0, none⟩) us.length uc) us.length (Ae unC us)) :
  Calls Tryz.prog 34 #[.pointer (some ⟨wb, 0, none⟩), .int .i64 who] w fun e w' => e = .returned (.pointer (Gz us who ub)) ∧ St w0 F0 w' (Aa wb (wC p (time) (.slice (some ⟨ub, 0, none⟩) us.length uc) (.slice LA nl lc)) 86 :: L) G := by
 replace hr := hr.cons (Aa wb (wC p (time) (.slice (some ⟨ub, 0, none⟩) us.length uc) (.slice LA nl lc)) 86); refine W.func func34 O ntmps34 O<|Wh O<|Ow O (X.box1 I (.int _ _) O O fun p3 w3 I => I.y O (Y.assignP O)<|Od O<|Wq O<|Wh O<|I.p O O<|I.y O (Y.isNil underlying45 O O)<|Od O<|Wu O O<|Wk O<|Wh O<|I.p O O<|I.t O O<|I.f I8 O O<|I.y O (Y.load 1 isAgg84 O O O)<|I.y O (Y.makeFunc O O)<|Ow O (X.ret Bv3 (Rq unC D1 (isU who) us (by omega) _ uc 63 [] [.pointer (some ⟨p3, 0, none⟩)] Bv4 _ _ _ _ _ I (hr.cons _) (fun x hx w I => Au0 x who _ _ _ _ _ _ I 0 O)) O fun _ I => I.a O O<|Od O<|Wq O<|Wh O<|I.u O O<|I.v O O O (fun b15 hb15 => Od O<|?_))); cases b15
 ·replace hb15 := dF hb15; refine Wu rfl rfl<|Wk rfl<|Wh rfl<|I.p rfl rfl<|I.t rfl rfl<|I.f I8 rfl rfl<|I.y rfl (Y.load 1 isAgg84 rfl rfl rfl)<|I.u rfl rfl<|I.y rfl (Y.indexAddr underlying84 sizeOf96 rfl rfl (by simp) (by have := Ai5 hb15; have := (J3 (isU who) us).1; omega))<|?_; refine I.y O (Y.assignP O)<|Od O<|We O<|⟨_, Ac.one results34 O, ?_⟩; have hq : Gz us who ub = some ⟨ub, (Di (isU who) us).toNat * 4, none⟩ := if_neg hb15; exact ⟨by rw [hq]; exact congrArg (fun z => Ending.returned (.pointer (some z))) (Vf ub (Di (isU who) us) 4), (I.dr 1)⟩
 ·replace hb15 := dT hb15; refine Wt O O<|Wh O<|I.y O (Y.assignP O)<|Od O<|We O<|⟨_, Ac.one results34 O, ?_⟩; have hq : Gz us who ub = none := if_pos hb15; exact ⟨by rw [hq]; rfl, (I.dr 1)⟩
theorem A7q (wb : Nat) (p : Par) (time : Int) (ub : Nat) (us : List Un) (uc : Nat) (LA : Option Addr) (nl lc : Nat) (t : Int) (w0 w : World) (F0 : List Nat) (L G : List Res) (I : St w0 F0 w (Aa wb (wC p (time) (.slice (some ⟨ub, 0, none⟩) us.length uc) (.slice LA nl lc)) 86 :: L) G) :
  Calls Tryz.prog 24 #[.pointer (some ⟨wb, 0, none⟩), .int .i64 t] w fun e w' => e = .returned (.tuple #[]) ∧ St w0 F0 w' (Aa wb (wC p (Ak t) (.slice (some ⟨ub, 0, none⟩) us.length uc) (.slice LA nl lc)) 86 :: L) G := by
 refine W.func func24 O ntmps24 O<|Wh O<|I.p O O<|I.y O (Y.notNil underlying45 O O)<|Od O<|Wt O O<|Wr O<|I.p O O<|I.u O O<|Ow O (X.ret Gt (Bu _ _ _ _ _ _ I ) O fun _ I => I.t O O<|I.f Vw O O<|Ow O (X.storeV I 0 (.int _ _) sizeOf3 O O O O (lZ O) O O fun _ I => Od O<|⟨_, Ac.none results24, ?_⟩)); exact ⟨O, I⟩
theorem Au3 (wb : Nat) (p : Par) (time : Int) (ub : Nat) (us : List Un) (uc : Nat) (LA : Option Addr) (nl lc : Nat) (w0 w : World) (F0 : List Nat) (L G : List Res) (I : St w0 F0 w (Aa wb (wC p (time) (.slice (some ⟨ub, 0, none⟩) us.length uc) (.slice LA nl lc)) 86 :: L) G) :
  Calls Tryz.prog 44 #[.pointer (some ⟨wb, 0, none⟩)] w fun e w' => e = .returned (.int .i64 time) ∧ St w0 F0 w' (Aa wb (wC p (time) (.slice (some ⟨ub, 0, none⟩) us.length uc) (.slice LA nl lc)) 86 :: L) G := by
 refine W.func func44 O ntmps44 O<|Wh O<|I.a O O<|Od O<|Wq O<|Wh O<|I.p O O<|I.y O (Y.isNil underlying45 O O)<|Od O<|Wu O O<|Wk O<|Wh O<|I.p O O<|I.t O O<|I.f Vw O O<|I.l 0 O O O O<|I.a O O<|Od O<|We O<|⟨_, Ac.one results44 O, ?_⟩; exact ⟨O, I⟩
end
section
open Tryz Go.RowKit YtaanjifekgfemaaGreat.K YtaanjifekgfemaaGreat.W
theorem Ra {α : Type} {c : α → List Value} {m : Nat} (hc : ∀ x, (c x).length = m) (l : List α) (i : Nat) (v : α) (h : i < l.length) : Go.Proofs.YtaanjifekgfemaaGreat.K.splice (Ae c l) (i * m) (c v) = Ae c (l.set i v) := by
 have e1 : l = l.take i ++ l[i] :: l.drop (i + 1) := by simp
 have e2 : l.set i v = l.take i ++ v :: l.drop (i + 1) := by rw [List.set_eq_take_append_cons_drop, if_pos h]
 have hl : (Ae c (l.take i)).length = i * m := by rw [Gi hc, List.length_take, Nat.min_eq_left (by omega)]
 rw [e2]
 conv => lhs; rw [e1]
 have f1 : Ae c (l.take i ++ l[i] :: l.drop (i + 1)) = Ae c (l.take i) ++ (c l[i] ++ Ae c (l.drop (i + 1))) := by unfold Ae; rw [List.flatMap_append, List.flatMap_cons]
 have f2 : Ae c (l.take i ++ v :: l.drop (i + 1)) = Ae c (l.take i) ++ (c v ++ Ae c (l.drop (i + 1))) := by simp [Ae]
 rw [f1, f2]; unfold Go.Proofs.YtaanjifekgfemaaGreat.K.splice; rw [List.take_append_of_le_length (by omega), List.take_of_length_le (by omega)]; rw [← hl, List.drop_append, List.drop_of_length_le (by omega), Nat.add_sub_cancel_left, List.nil_append, hc v]; rw [show m = (c l[i]).length from (hc _).symm, List.drop_append, List.drop_length, Nat.sub_self, List.drop_zero]; simp
theorem Anz {α : Type} {c : α → List Value} {m : Nat} (hc : ∀ x, (c x).length = m) (l : List α) (k : Nat) : (Ae c l).take (k * m) = Ae c (l.take k) := by
  induction l generalizing k with
  | nil => simp [Ae]
  | cons x l ih =>
    cases k with
    | zero => simp [Ae]
    | succ k =>
      have h1 : Ae c (x :: l) = c x ++ Ae c l := by simp [Ae]
      have h2 : Ae c ((x :: l).take (k + 1)) = c x ++ Ae c (l.take k) := by simp [Ae]
      rw [h1, h2, ← ih k, List.take_append, hc x]; rw [List.take_of_length_le (by rw [hc, Nat.add_mul]; omega), show (k + 1) * m - m = k * m by rw [Nat.add_mul]; omega]
structure DelS {α : Type} (p : α → Bool) (l xs : List α) (i j : Nat) : Prop where
  len : xs.length = l.length
  hj : j ≤ l.length
  hi : i = ((l.take j).filter fun x => !p x).length
  front : xs.take i = (l.take j).filter fun x => !p x
  back : xs.drop j = l.drop j
theorem DelS.le {α : Type} {p : α → Bool} {l xs : List α} {i j : Nat} (h : DelS p l xs i j) : i ≤ j := by
 have h1 := List.length_filter_le (fun x => !p x) (l.take j); rw [List.length_take] at h1; have := h.hi; omega
theorem DelS.get {α : Type} {p : α → Bool} {l xs : List α} {i j : Nat} (h : DelS p l xs i j) (hj : j < l.length) : ∃ hx : j < xs.length, xs[j] = l[j] := by
 have hx : j < xs.length := by rw [h.len]; exact hj
 refine ⟨hx, ?_⟩; have := congrArg (fun q => q[0]?) h.back; simpa [hx, hj] using this
theorem DelS.skip {α : Type} {p : α → Bool} {l xs : List α} {i j : Nat} (h : DelS p l xs i j) (hj : j < l.length) (hp : p l[j] = true) : DelS p l xs i (j + 1) := by
 have e : (l.take (j + 1)).filter (fun x => !p x) = (l.take j).filter fun x => !p x := by
  rw [List.take_succ_eq_append_getElem hj, List.filter_append]; simp [hp]
 exact ⟨h.len, hj, by rw [e]; exact h.hi, by rw [e]; exact h.front, by
  have := congrArg (List.drop 1) h.back
  simpa [List.drop_drop, Nat.add_comm] using this⟩
theorem DelS.keep {α : Type} {p : α → Bool} {l xs : List α} {i j : Nat} (h : DelS p l xs i j) (hj : j < l.length) (hp : p l[j] = false) : DelS p l (xs.set i l[j]) (i + 1) (j + 1) := by
 have hle := h.le
 have e : (l.take (j + 1)).filter (fun x => !p x) = ((l.take j).filter fun x => !p x) ++ [l[j]] := by
  rw [List.take_succ_eq_append_getElem hj, List.filter_append]; simp [hp]
 have hix : i < xs.length := by rw [h.len]; omega
 refine ⟨by simpa using h.len, hj, by rw [e]; simp [h.hi], ?_, ?_⟩
 ·rw [e, ← h.front, List.take_succ_eq_append_getElem (by simpa using hix), List.getElem_set_self]
  congr 1
  rw [List.take_set]; exact List.set_eq_of_length_le (by rw [List.length_take]; omega)
 ·rw [List.drop_set_of_lt (by omega)]; have := congrArg (List.drop 1) h.back; simpa [List.drop_drop, Nat.add_comm] using this
theorem Ayq {α : Type} {p : α → Bool} {l : List α} {i : Nat} (h : Di p l = (i : Int)) : i < l.length ∧ DelS p l l i (i + 1) := by
 unfold Di at h; split at h
 ·rename_i hlt; have hi : l.findIdx p = i := by omega
  subst hi
  have h0 : ∀ x ∈ l.take (l.findIdx p), p x = false := by
   intro x hx; obtain ⟨j, hj, rfl⟩ := List.getElem_of_mem hx; rw [List.length_take] at hj; rw [List.getElem_take]; have := List.not_of_lt_findIdx (xs := l) (p := p) (i := j) (by omega); simpa using this
  have hp := List.findIdx_getElem (w := hlt)
  have e : (l.take (l.findIdx p + 1)).filter (fun x => !p x) = l.take (l.findIdx p) := by
   rw [List.take_succ_eq_append_getElem hlt, List.filter_append, List.filter_eq_self.2 (fun x hx => by simp [h0 x hx])]; simp [hp]
  exact ⟨hlt, rfl, hlt, by rw [e, List.length_take]; omega, by rw [e], rfl⟩
 ·omega
theorem Aoz {α : Type} {p : α → Bool} {l : List α} (h : Di p l = -1) : (l.filter fun x => !p x) = l := by
 unfold Di at h; split at h
 ·omega
 ·rename_i hlt; rw [List.filter_eq_self]; intro x hx; have := List.findIdx_eq_length.1 (Nat.le_antisymm List.findIdx_le_length (Nat.le_of_not_lt hlt)) x hx; simpa using this
theorem DelS.fin {α : Type} {p : α → Bool} {l xs : List α} {i j : Nat} (h : DelS p l xs i j) (hj : l.length ≤ j) : xs.take i = (l.filter fun x => !p x) ∧ i = (l.filter fun x => !p x).length ∧ i ≤ l.length := by
 have e : l.take j = l := List.take_of_length_le hj; have h1 := h.front; have h2 := h.hi; rw [e] at h1 h2; exact ⟨h1, h2, by have := List.length_filter_le (fun x => !p x) l; omega⟩
def Yc (us : List Un) (ub : Nat) (l : List (Int × Int)) (y : Int × Int) : Prop := y.1 ≠ y.2 ∧ Gz us y.1 ub ≠ none ∧ Gz us y.2 ub ≠ none ∧ y ∉ l
instance (us : List Un) (ub : Nat) (l : List (Int × Int)) (y : Int × Int) : Decidable (Yc us ub l y) := by unfold Yc; infer_instance
def Fh (us : List Un) (ub : Nat) (l : List (Int × Int)) (y : Int × Int) : List (Int × Int) := if Yc us ub l y then l ++ [y] else l
theorem Y.notNilD {P : Program} {S : World → Prop} {ρ : Env} {ty t t' : TypeId} {x y : Operand} {p : Option Addr} {e : TypeId} (ht : P.underlying t = some (.pointer e)) (hx : ev ρ x = .pointer p) (hy : ev ρ y = .pointer none) : Y P S ρ (.binOp .neq t x y t') ty (.bool (decide (p ≠ none))) :=
 Y.cast (Y.notNil ht hx hy) (by cases p <;> simp)
end
section
open Tryz Go.RowKit YtaanjifekgfemaaGreat.K YtaanjifekgfemaaGreat.W
attribute [local irreducible] Bg Ak Bb sub neg mag Da mul Dy
theorem Bs2 : CF 78 := fun _ _ => by simp [go_sem]
theorem Ab1 (p : Int × Int → Bool) (l : List (Int × Int)) (hl : l.length ≤ 1000000) (b cap : Nat) (f : FuncId) (fs cs : List Value) (hfc : ∀ args w, (callFunc f args).run Tryz.prog w = .ok (.enter f args) w) (w0 w : World) (F0 : List Nat) (L G : List Res) (I : St w0 F0 w (Af (.slice (some ⟨b, 0, none⟩) l.length cap) 77 2 l.length (Ae Aq (l)) :: L) G)
  (hf : ∀ x ∈ l, ∀ w L', (∃ L1, L' = L1 ++ L) → St w0 F0 w L' G → Calls Tryz.prog f (fs ++ [Value.agg (Aq x).toArray] ++ cs).toArray w fun e w' => e = .returned (.bool (p x)) ∧ St w0 F0 w' L' G) :
  Calls Tryz.prog 55 #[.slice (some ⟨b, 0, none⟩) l.length cap, .func (.func f) fs.toArray cs.toArray] w fun e w' => e = .returned (.slice (some ⟨b, 0, none⟩) (l.filter fun x => !p x).length cap) ∧ St w0 F0 w' (Af (.slice (some ⟨b, 0, none⟩) (l.filter fun x => !p x).length cap) 77 2 (l.filter fun x => !p x).length (Ae Aq ((l.filter fun x => !p x))) :: L) G := by
 have hcap : l.length ≤ cap := by
  obtain ⟨A', c', h, h2⟩ := C5 (I.res _ (.head _)); injection h with _ _ h; omega
 refine W.func func55 O ntmps55 O<|Wh O<|I.y O (Y.assignS O)<|Ds O O<|I.s O O<|I.y O (Y.moveV O)<|Ow O (X.ret Bs2 (Lu Aq Cc p l (by omega) _ cap f fs cs hfc _ _ _ _ _ I (Rds.rowL 0 O) (fun x hx w I => hf x hx w _ ⟨[_], O⟩ I)) O fun _ I => I.a O O<|Od O<|Wq O<|Wh O<|I.u O O<|I.Y O O O (fun b12 hb12 => Od O<|?_)); cases b12
 ·replace hb12 := dF hb12; refine Wu O O<|Wk O<|Wq O<|Wq O<|?_; have hir := J3 p l; generalize hq : Di p l = q at *; obtain ⟨i0, rfl⟩ : ∃ n : Nat, q = (n : Int) := ⟨q.toNat, by omega⟩; have hdl := Ayq hq; refine Wr O<|I.u O O<|I.j O O O (by omega)<|I.a O O<|Od O<|Wb O<|?_; refine W.loop (γ := List (Int × Int) × Nat × Nat) [(0, .slice _ _ _), (1, _)] (fun x => [(5, .int .i64 (x.2.1 : Int)), (6, .int .i64 (x.2.2 : Int))]) (fun x w => DelS p l x.1 x.2.1 x.2.2 ∧ St w0 F0 w (Af (.slice (some ⟨b, 0, none⟩) l.length cap) 77 2 l.length (Ae Aq (x.1)) :: L) G) (fun x => l.length - x.2.2) ((l, i0, i0 + 1)) O ⟨O, O, trivial⟩ ?_ ?_ ?_
  ·exact ⟨O, O, trivial⟩
  ·exact ⟨hdl.2, I⟩
  ·clear I; rintro ⟨xs, i2, j2⟩ j w5 ⟨hd, I⟩; dsimp only at hd; have hqi : (xs, i2, j2).snd.fst = i2 := rfl; have hqj : (xs, i2, j2).snd.snd = j2 := rfl; refine Wq O<|Wh O<|I.u O O<|I.s O O<|I.y O (Y.lenS underlying25 O)<|I.v O O O (fun b19 hb19 => Od O<|?_); cases b19
   ·replace hb19 := dF hb19; refine Wu O O<|W.exit O<|Wq O<|?_; have hfin := hd.fin (by omega); refine Wr O<|I.s O O<|I.u O O<|I.y O (Y.sliceLo underlying25 sizeOf77 O O O (by omega))<|Ow O (X.clearRow I 0 underlying25 zeroValue77 (zs := [.int .i64 0, .int .i64 0]) O (by simp [Value.oneCell']) (size := 2) (k := i2) O O O (by omega) fun w11 ys hy1 hy2 I => ?_); refine Ds O O<|I.s O O<|I.u O O<|I.y O (Y.sliceHi underlying25 sizeOf77 O O O (by omega))<|I.y O (Y.assignS O)<|Od O<|We O<|⟨_, Ac.one results55 O, ?_⟩; have hy3 : ys.take (i2 * 2) = (Ae Aq xs).take (i2 * 2) := hy2; have hst2 := I.rowTake (k := i2) (by omega); rw [hy3, Anz Cc, hfin.1, hfin.2.1] at hst2; exact ⟨congrArg (fun z => Ending.returned (.slice (some ⟨b, 0, none⟩) z cap)) hfin.2.1, hst2⟩
   ·replace hb19 := dT hb19; refine Wt O O<|Wk O<|Wq O<|Wb O<|Wq O<|?_; have hj1 : j2 < l.length := by omega
    obtain ⟨hx2, he2⟩ := hd.get hj1; have hile := hd.le; refine Wr O<|I.s O O<|I.u O O<|I.y O (Y.indexAddr underlying25 sizeOf77 O O (by simp) (by omega))<|?_; refine I.y rfl (Y.loadSlA isAgg77 sizeOf77 rfl (Rds.rowL 0 rfl) (Bo Cc xs j2 hx2) (Cc _))<|Ow rfl (X.allocA I zeroValue77 fun p7 w7 I => Ow rfl (X.storeS I 0 sizeOf77 rfl rfl rfl rfl rfl (lZ rfl) rfl rfl fun _ I => Ds rfl rfl<|I.y rfl (Y.moveV rfl)<|I.y rfl (Y.loadA 0 isAgg77 sizeOf77 rfl rfl rfl rfl)<|Ow rfl (X.retVB hfc rfl (hf xs[j2] (by rw [he2]; exact List.getElem_mem hj1) _ _ ⟨[_, _], O⟩ I) O fun b28 w28 hb28 I => ?_))); cases b28
    ·replace hb28 := dF hb28; refine I.q O O<|Od O<|Wt O O<|Wh O<|I.s O O<|I.u O O<|I.y O (Y.loadA 0 isAgg77 sizeOf77 O O O O)<|I.y O (Y.indexAddr underlying25 sizeOf77 O O (by simp) (by omega))<|?_; refine Ow O (X.storeRow I 1 sizeOf77 (b := b) (i := i2 * 2) (by exact congrArg (fun a => Value.pointer (some a)) (Vf b (i2 : Int) 2)) O O O (fun v hv => by have hv : v ∈ Aq xs[j2] := hv; simp only [Aq, List.mem_cons, List.not_mem_nil, or_false] at hv; rcases hv with rfl | rfl <;> rfl) (by omega) fun _ I => ?_); refine Od O<|Wr O<|I.u O O<|I.j O O O (by omega)<|I.a O O<|Od O<|Wr O<|I.u O O<|I.j O O O (by omega)<|I.a O O<|Od O<|?_; have hk := hd.keep hj1 (by rw [← he2]; simpa using hb28); have hset := Ra Cc xs i2 xs[j2] (by rw [hd.len]; omega); have hst2 := (I.dr 1); refine ⟨(xs.set i2 l[j2], i2 + 1, j2 + 1), ⟨O, O, trivial⟩, ⟨O, O, trivial⟩, ⟨hk, ?_⟩, by dsimp only at *; omega⟩; rw [← he2, ← hset]; exact hst2
    ·replace hb28 := dT hb28; refine I.q O O<|Od O<|Wu O O<|Wk O<|Wr O<|I.u O O<|I.j O O O (by omega)<|I.a O O<|Od O<|?_; exact ⟨(xs, i2, j2 + 1), ⟨rfl, rfl, trivial⟩, ⟨rfl, rfl, trivial⟩, ⟨hd.skip hj1 (by rw [← he2]; exact hb28), (I.dr 1)⟩, by dsimp only at *; omega⟩
 ·replace hb12 := dT hb12; refine Wt O O<|Wh O<|I.s O O<|I.y O (Y.assignS O)<|Od O<|We O<|⟨_, Ac.one results55 O, ?_⟩; have hn := Aoz hb12; rw [hn]; exact ⟨O, I⟩
theorem Hr {S ρ ty} {parts : Array (Nat × Operand)} {x0 x1 : Int} (hp : (parts.toList.map fun x => (x.1, ev ρ x.2)) = [(0, .int .i64 x0), (1, .int .i64 x1)]) : Y Tryz.prog S ρ (.build 77 parts) ty (.agg #[.int .i64 x0, .int .i64 x1]) :=
 Y.build hp fun w => by simp [Instr.build, go_sem]
theorem Ma : FA 77 0 0 := fun _ _ => by simp [Instr.fieldAt, Instr.sureAddr, go_sem]
theorem Kq : FA 77 1 1 := fun _ _ => by simp [Instr.fieldAt, Instr.sureAddr, go_sem]
theorem N3 : FA 86 3 14 := fun _ _ => by simp [Instr.fieldAt, Instr.sureAddr, go_sem]
theorem Xi : CF 34 := fun _ _ => by simp [go_sem]
theorem Buz : CF 55 := fun _ _ => by simp [go_sem]
theorem Brz : CF 57 := fun _ _ => by simp [go_sem]
theorem Brx : CF 56 := fun _ _ => by simp [go_sem]
theorem Bu4 : CF 29 := fun _ _ => by simp [go_sem]
theorem A9q : CF 30 := fun _ _ => by simp [go_sem]
theorem Bkz : (Tryz.prog.info? 77).map (fun i => (i.zero, i.size, i.bytes)) = some (some (.agg #[Value.int .i64 0, Value.int .i64 0]), 2, 16) := by kernel_rfl
theorem Aw9 (x y : Int × Int) (b : Nat) (w0 w : World) (F0 : List Nat) (L G : List Res) (I : St w0 F0 w L G) (hm : Aa b (Aq y) 77 ∈ L) :
  Calls Tryz.prog 56 #[.agg (Aq x).toArray, .pointer (some ⟨b, 0, none⟩)] w fun e w' => e = .returned (.bool (decide (x = y))) ∧ St w0 F0 w' L G := by
 obtain ⟨j, hj⟩ := List.getElem?_of_mem hm; refine W.func func56 O ntmps56 O<|Wh O<|Ow O (X.boxA I O fun p2 w2 I => I.g O O<|Ds O O<|I.y O (Y.loadA 0 isAgg77 sizeOf77 O O O O)<|I.y O (Y.loadA (j + 1) isAgg77 sizeOf77 O (by simpa using hj) O O)<|?_); refine I.yb O (Y.eq2 P1 P0 O O) (fun b6 hb6 => I.g O O<|Od O<|We O<|⟨_, Ac.one results56 O, ?_⟩); exact ⟨congrArg (fun b => Ending.returned (.bool b)) (hb6.trans (decide_eq_decide.2 ⟨fun h => Prod.ext h.1 h.2, fun h => by rw [h]; exact ⟨O, O⟩⟩)), (I.dr 1)⟩
theorem Ab2 (f : FuncId) (fs cs : List Value) (hfc : ∀ args w, (callFunc f args).run Tryz.prog w = .ok (.enter f args) w) (w0 w : World) (F0 : List Nat) (L G : List Res) (I : St w0 F0 w L G) (hrn : Rds L G (.slice none 0 0) 0 []) :
  Calls Tryz.prog 55 #[.slice none 0 0, .func (.func f) fs.toArray cs.toArray] w fun e w' => e = .returned (.slice none 0 0) ∧ St w0 F0 w' L G := by
 refine W.func func55 O ntmps55 O<|Wh O<|I.y O (Y.assignS O)<|Ds O O<|I.s O O<|I.y O (Y.moveV O)<|Ow O (X.ret Bs2 (Lu Aq Cc (fun _ => true) [] (by simp) none 0 f fs cs hfc _ _ _ _ _ I hrn (fun x hx => by cases hx)) O fun _ I => ?_); refine I.a O O<|Od O<|Wq O<|Wh O<|I.u O O<|I.Y O O O (fun b12 hb12 => Od O<|?_); cases b12
 ·replace hb12 := dF hb12; exact absurd O hb12
 ·replace hb12 := dT hb12; refine Wt O O<|Wh O<|I.s O O<|I.y O (Y.assignS O)<|Od O<|We O<|⟨_, Ac.one results55 O, ?_⟩; exact ⟨O, I⟩
theorem Xp (y : Int × Int) (l : List (Int × Int)) (hl : l.length ≤ 1000000) (A : Option Addr) (c b : Nat) (w0 w : World) (F0 : List Nat) (L G : List Res) (I : St w0 F0 w (Af (.slice A (l).length c) 77 2 (l).length (Ae Aq (l)) :: Aa b (Aq y) 77 :: L) G) :
  Calls Tryz.prog 55 #[.slice A l.length c, .func (.func 56) #[] #[.pointer (some ⟨b, 0, none⟩)]] w fun e w' => e = .returned (.slice A (l.filter fun x => !decide (x = y)).length c) ∧ St w0 F0 w' (Af (.slice A ((l.filter fun x => !decide (x = y))).length c) 77 2 ((l.filter fun x => !decide (x = y))).length (Ae Aq ((l.filter fun x => !decide (x = y)))) :: Aa b (Aq y) 77 :: L) G := by
 have hrow : w.ownsRow 0 77 2 (.slice A l.length c) l.length (Ae Aq l) := I.res _ (.head _); rcases hrow.2 with ⟨h1, h2⟩ | ⟨g, cap, cur, h1, _⟩
 ·obtain rfl : l = [] := List.eq_nil_of_length_eq_zero h2; injection h1 with h1 h3 h4; subst h1; subst h4; exact Ab2 56 [] [.pointer (some ⟨b, 0, none⟩)] Brx _ _ _ _ _ I (Rds.rowL 0 O)
 ·injection h1 with h1 h3 h4; subst h1; subst h4; refine Ab1 (fun x => decide (x = y)) l hl g c 56 [] [.pointer (some ⟨b, 0, none⟩)] Brx _ _ _ _ _ I ?_; rintro x hx w L' ⟨L1, rfl⟩ I; exact Aw9 x y b _ _ _ _ _ I (List.mem_append.2 (.inr (.head _)))
theorem Ba6 (wb : Nat) (p : Par) (time : Int) (ub : Nat) (us : List Un) (uc : Nat) (l : List (Int × Int)) (hl : l.length ≤ 1000000) (LA : Option Addr) (lc : Nat) (y : Int × Int) (w0 w : World) (F0 : List Nat) (L G : List Res) (I : St w0 F0 w (Aa wb (wC p time (.slice (some ⟨ub, 0, none⟩) us.length uc) (.slice LA (l.length) lc)) 86 :: Af (.slice LA (l).length lc) 77 2 (l).length (Ae Aq (l)) :: L) G) :
  Calls Tryz.prog 29 #[.pointer (some ⟨wb, 0, none⟩), .agg (Aq y).toArray] w fun e w' => e = .returned (.tuple #[]) ∧ St w0 F0 w' (Aa wb (wC p time (.slice (some ⟨ub, 0, none⟩) us.length uc) (.slice LA ((l.filter fun x => !decide (x = y)).length) lc)) 86 :: Af (.slice LA ((l.filter fun x => !decide (x = y))).length lc) 77 2 ((l.filter fun x => !decide (x = y))).length (Ae Aq ((l.filter fun x => !decide (x = y)))) :: L) G := by
 refine W.func func29 O ntmps29 O<|Wh O<|Ow O (X.boxA I O fun p3 w3 I => Od O<|Wr O<|I.p O O<|I.p O O<|I.t O O<|I.f N3 O O<|I.y O (Y.load 1 isAgg25 O O O)<|I.y O (Y.makeFunc O O)<|Oc O Buz O ?_); refine Ab (Xp y l hl LA lc p3 _ _ _ _ _ (I.up_2)) O ?_; clear I; rintro e w10 ⟨rfl, I⟩; replace I := I.dn2; refine ⟨_, O, ?_⟩; refine I.t O O<|I.f N3 O O<|Ow O (X.storeV I 1 (.slice _ _ _) sizeOf25 O O O O (lZ O) O O fun _ I => Od O<|⟨_, Ac.none results29, ?_⟩); exact ⟨O, (I.dr 1)⟩
set_option maxHeartbeats 1000000 in
theorem Nc (wb : Nat) (p : Par) (time : Int) (ub : Nat) (us : List Un) (uc : Nat) (l : List (Int × Int)) (hl : l.length ≤ 1000000) (LA : Option Addr) (lc : Nat) (y : Int × Int) (hul : us.length ≤ 1000000) (w0 w : World) (F0 : List Nat) (L G : List Res) (I : St w0 F0 w (Aa wb (wC p time (.slice (some ⟨ub, 0, none⟩) us.length uc) (.slice LA (l.length) lc)) 86 :: Af (.slice LA (l).length lc) 77 2 (l).length (Ae Aq (l)) :: L) G) (hru : Rds L G (.slice (some ⟨ub, 0, none⟩) us.length uc) us.length (Ae unC us)) :
  Calls Tryz.prog 30 #[.pointer (some ⟨wb, 0, none⟩), .agg (Aq y).toArray] w fun e w' => ∃ A' c', e = .returned (.tuple #[]) ∧ St w0 F0 w' (Aa wb (wC p time (.slice (some ⟨ub, 0, none⟩) us.length uc) (.slice A' ((Fh us ub l y).length) c')) 86 :: Af (.slice A' (Fh us ub l y).length c') 77 2 (Fh us ub l y).length (Ae Aq (Fh us ub l y)) :: L) G := by
 refine W.func func30 O ntmps30 O<|Wh O<|Ow O (X.boxA I O fun p3 w3 I => Od O<|Wq O<|?_); refine W.cut [(0, .pointer _), (3, .pointer _)] (fun x : Bool => [(31, .bool x)]) (fun x w => x = decide (Yc us ub l y) ∧ St w0 F0 w (Aa p3 (Aq y) 77 :: Aa wb (wC p time (.slice (some ⟨ub, 0, none⟩) us.length uc) (.slice LA (l.length) lc)) 86 :: Af (.slice LA (l).length lc) 77 2 (l).length (Ae Aq (l)) :: L) G) ⟨O, O, trivial⟩ ?_ ?_
 rotate_left
 ·clear I; rintro b31 j w31 ⟨hb31, I⟩; cases b31
  ·replace hb31 := dF hb31; refine Wu O O<|Wk O<|⟨_, Ac.none results30, ?_⟩; have hq : Fh us ub l y = l := if_neg hb31; rw [hq]; exact ⟨LA, lc, O, (I.dr 1)⟩
  ·replace hb31 := dT hb31; refine Wt O O<|W.drawn O (by kernel_rfl) (Ctx _ _ (_) (_)) [7, 8, 9, 10] (.op 0 2 (.op 1 0 (.op 2 0 (.op 3 0 (.op 4 0 (.op 5 0 (.op 6 1 (.op 7 1 (.op 8 1 (.op 9 1 (.op 10 1 .nil))))))))))) O (by kernel_rfl) I.drew.ctx<|?_; replace I := I.drew; generalize World.drew _ = wd at I ⊢; refine Drw.ya rfl rfl rfl I.ctx (Y.moveP rfl)<|I.zp rfl rfl<|I.zt rfl rfl<|I.zf N3 rfl rfl<|I.z rfl (Y.load 1 isAgg25 rfl rfl rfl)<|I.z rfl (Y.loadA 0 isAgg77 sizeOf77 rfl rfl rfl rfl)<|Dw rfl (X.lit1 I underlying25 sizeOf77 zeroValue77 rfl rfl rfl fun p38 w38 I => ⟨(I.cx 1), Drw.z rfl rfl rfl rfl (X.app I 3 0 underlying25 Bkz rfl rfl rfl rfl rfl rfl rfl rfl (by unfold maxLen; omega) (by omega) fun A39 c39 w39 I => ?_)⟩); refine Drw.zy O O O O I.ctx (Y.nilCheck O)<|Drw.zy O O O O I.ctx (Y.fieldAddr N3 O)<|Drw.z O O O O (X.storeV I 2 (.slice _ _ _) sizeOf25 O O O O (lZ O) O O fun _ I => Dd<|⟨_, Ac.none results30, ?_⟩); have hq : Fh us ub l y = l ++ [y] := if_pos hb31; have e4 : (l ++ [y]).length = l.length + 1 := by simp
   have e5 : Ae Aq (l ++ [y]) = Ae Aq l ++ Aq y := by rw [Cy]; simp [Ae]
   rw [hq, e4, e5]; exact ⟨A39, c39, O, (I.dr 2)⟩
 refine I.dv [] (T0 [0,1,2,3,4,5,6,7,8] (.op 9 1 (T0 [10,11,12,13,14,15] (.op 16 1 (T0 [17,18,19,20,21,22,23,24] (.op 25 1 (T0 [26,27] .nil))))))) O (by kernel_rfl) O (by kernel_rfl) fun wd I => ?_; refine I.zf Ma O O<|I.zl 0 O O O O<|I.zf Kq O O<|I.zl 0 O O O O<|Drw.yb O O O I.ctx (Y.neq O O) (fun b8 hb8 => I.zb O O<|?_); cases b8
 ·replace hb8 := dF hb8; refine I.o O<|I.o O<|I.o O<|Drw.noX O O O I.ctx<|I.o O<|I.zk O O O<|I.zb O O<|I.o O<|I.o O<|I.o O<|Drw.noX O O O I.ctx<|I.o O<|I.zk O O O<|I.zb O O<|I.o O<|I.o O<|I.o O<|I.o O<|I.o O<|Drw.noX O O O I.ctx<|I.o O<|I.zk O O O<|Dd<|?_; exact ⟨_, ⟨O, trivial⟩, ⟨O, O, trivial⟩, (decide_eq_false (fun h => hb8 h.1)).symm, I⟩
 ·replace hb8 := dT hb8; refine I.zp O O<|I.zf Ma O O<|I.zl 0 O O O O<|Dw O (X.ret Xi (dn1 (Nr wb p time ub us uc LA l.length lc y.1 hul _ _ _ _ _ I.up_1 ((hru.cons _).cons _))) O fun _ I => ⟨I.ctx, Drw.yb O O O I.ctx (Y.notNilD underlying91 O O) (fun b14 hb14 => I.zk O O O<|I.zb O O<|?_)⟩); cases b14
  ·replace hb14 := dF hb14; refine I.o O<|I.o O<|I.o O<|Drw.noX O O O I.ctx<|I.o O<|I.zk O O O<|I.zb O O<|I.o O<|I.o O<|I.o O<|I.o O<|I.o O<|Drw.noX O O O I.ctx<|I.o O<|I.zk O O O<|Dd<|?_; exact ⟨_, ⟨O, trivial⟩, ⟨O, O, trivial⟩, (decide_eq_false (fun h => hb14 h.2.1)).symm, I⟩
  ·replace hb14 := dT hb14; refine I.zp O O<|I.zf Kq O O<|I.zl 0 O O O O<|Dw O (X.ret Xi (dn1 (Nr wb p time ub us uc LA l.length lc y.2 hul _ _ _ _ _ I.up_1 ((hru.cons _).cons _))) O fun _ I => ⟨I.ctx, Drw.yb O O O I.ctx (Y.notNilD underlying91 O O) (fun b21 hb21 => I.zk O O O<|I.zb O O<|?_)⟩); cases b21
   ·replace hb21 := dF hb21; refine I.o O<|I.o O<|I.o O<|I.o O<|I.o O<|Drw.noX O O O I.ctx<|I.o O<|I.zk O O O<|Dd<|?_; exact ⟨_, ⟨O, trivial⟩, ⟨O, O, trivial⟩, (decide_eq_false (fun h => hb21 h.2.2.1)).symm, I⟩
   ·replace hb21 := dT hb21; refine I.zp O O<|I.zt O O<|I.zf N3 O O<|I.z O (Y.load 1 isAgg25 O O O)<|I.z O (Y.loadA 0 isAgg77 sizeOf77 O O O O)<|Dw O (X.retB Brz (M1 l (by omega) LA lc y _ _ _ _ _ I (Rds.rowL 2 O)) O fun b29 w29 hb29 I => ⟨I.ctx, ?_⟩); cases b29
    ·replace hb29 := dF hb29; refine I.zq O O<|I.zk O O O<|Dd<|?_; exact ⟨_, ⟨O, trivial⟩, ⟨O, O, trivial⟩, (decide_eq_true ⟨hb8, hb14, hb21, hb29⟩).symm, I⟩
    ·replace hb29 := dT hb29; refine I.zq O O<|I.zk O O O<|Dd<|?_; exact ⟨_, ⟨O, trivial⟩, ⟨O, O, trivial⟩, (decide_eq_false (fun h => h.2.2.2 hb29)).symm, I⟩
def inB (y : Int × Int) : Prop := 0 ≤ y.1 ∧ 0 ≤ y.2 ∧ y.1 < 32 ∧ y.2 < 32
instance (y : Int × Int) : Decidable (inB y) := by unfold inB; infer_instance
def C3 (eff : List (Int × Int) → Int × Int → List (Int × Int)) (l : List (Int × Int)) (y : Int × Int) : List (Int × Int) := if inB y then eff (eff l (16 + y.1, 16 + y.2)) (16 + y.2, 16 + y.1) else l
theorem Qu (wb : Nat) (p : Par) (time : Int) (ub : Nat) (us : List Un) (uc : Nat) (eff : List (Int × Int) → Int × Int → List (Int × Int)) (n : Nat) (heff : ∀ l y, (eff l y).length ≤ l.length + 1) (l : List (Int × Int)) (hl : l.length + 1 ≤ n) (LA : Option Addr) (lc : Nat) (y : Int × Int) (f : FuncId) (hfc : ∀ args w, (callFunc f args).run Tryz.prog w = .ok (.enter f args) w) (w0 w : World) (F0 : List Nat) (L G : List Res) (I : St w0 F0 w (Aa wb (wC p time (.slice (some ⟨ub, 0, none⟩) us.length uc) (.slice LA ((l).length) lc)) 86 :: Af (.slice LA (l).length lc) 77 2 (l).length (Ae Aq (l)) :: L) G)
    (hf : ∀ (l : List (Int × Int)), l.length ≤ n → ∀ LA lc (y : Int × Int) w L1, St w0 F0 w (Aa wb (wC p time (.slice (some ⟨ub, 0, none⟩) us.length uc) (.slice LA (l.length) lc)) 86 :: Af (.slice LA (l).length lc) 77 2 (l).length (Ae Aq (l)) :: (L1 ++ L)) G → Calls Tryz.prog f #[.pointer (some ⟨wb, 0, none⟩), .agg (Aq y).toArray] w fun e w' => ∃ A' c', e = .returned (.tuple #[]) ∧ St w0 F0 w' (Aa wb (wC p time (.slice (some ⟨ub, 0, none⟩) us.length uc) (.slice A' ((eff l y).length) c')) 86 :: Af (.slice A' (eff l y).length c') 77 2 (eff l y).length (Ae Aq (eff l y)) :: (L1 ++ L)) G) :
    Calls Tryz.prog 28 #[.pointer (some ⟨wb, 0, none⟩), .agg (Aq y).toArray, .func (.func f) #[] #[]] w fun e w' => ∃ A' c', e = .returned (.tuple #[]) ∧ St w0 F0 w' (Aa wb (wC p time (.slice (some ⟨ub, 0, none⟩) us.length uc) (.slice A' ((C3 eff l y).length) c')) 86 :: Af (.slice A' (C3 eff l y).length c') 77 2 (C3 eff l y).length (Ae Aq (C3 eff l y)) :: L) G := by
  refine W.func func28 O ntmps28 O<|Wh O<|Ow O (X.boxA I O fun p4 w4 I => Od O<|Wq O<|?_); refine W.cut [(0, .pointer _), (2, _), (4, .pointer _)] (fun x : Int × Int => [(6, .int .i64 x.1), (7, .int .i64 x.2)]) (fun x w => (inB y → x = (16 + y.1, 16 + y.2)) ∧ St w0 F0 w (Aa p4 (Aq y) 77 :: Aa wb (wC p time (.slice (some ⟨ub, 0, none⟩) us.length uc) (.slice LA (l.length) lc)) 86 :: Af (.slice LA (l).length lc) 77 2 (l).length (Ae Aq (l)) :: L) G) ⟨O, O, O, trivial⟩ ?_ ?_
  rotate_left
  · clear I; rintro ⟨a, b⟩ j w1 ⟨hab, I⟩; refine Wh O<|I.f Ma O O<|I.l 0 O O O O<|I.W O O O (fun b16 hb16 => I.b O O<|?_); cases b16
    · replace hb16 := dF hb16; refine On O<|On O<|On O<|I.k O O O<|I.b O O<|On O<|On O<|On O<|I.k O O O<|I.b O O<|On O<|On O<|On O<|I.k O O O<|Od O<|Wu O O<|Wk O<|⟨_, Ac.none results28, ?_⟩; have hq : C3 eff l y = l := if_neg (by unfold inB; omega); exact ⟨LA, lc, O, by rw [hq]; exact (I.dr 1)⟩
    · replace hb16 := dT hb16; refine I.f Kq O O<|I.l 0 O O O O<|I.W O O O (fun b20 hb20 => I.k O O O<|I.b O O<|?_); cases b20
      · replace hb20 := dF hb20; refine On O<|On O<|On O<|I.k O O O<|I.b O O<|On O<|On O<|On O<|I.k O O O<|Od O<|Wu O O<|Wk O<|⟨_, Ac.none results28, ?_⟩; have hq : C3 eff l y = l := if_neg (by unfold inB; omega); exact ⟨LA, lc, O, by rw [hq]; exact (I.dr 1)⟩
      · replace hb20 := dT hb20; refine I.f Ma O O<|I.l 0 O O O O<|I.v O O O (fun b25 hb25 => I.k O O O<|I.b O O<|?_); cases b25
        · replace hb25 := dF hb25; refine On O<|On O<|On O<|I.k O O O<|Od O<|Wu O O<|Wk O<|⟨_, Ac.none results28, ?_⟩; have hq : C3 eff l y = l := if_neg (by unfold inB; omega); exact ⟨LA, lc, O, by rw [hq]; exact (I.dr 1)⟩
        · replace hb25 := dT hb25; refine I.f Kq O O<|I.l 0 O O O O<|I.v O O O (fun b30 hb30 => I.k O O O<|Od O<|?_); cases b30
          · replace hb30 := dF hb30; refine Wu O O<|Wk O<|⟨_, Ac.none results28, ?_⟩
            first
            | (have hq : C3 eff l y = l := if_neg (by unfold inB; omega)
               exact ⟨LA, lc, O, by rw [hq]; exact (I.dr 1)⟩)
            | (have hq : C3 eff l y = eff (eff l (16 + y.1, 16 + y.2)) (16 + y.2, 16 + y.1) := if_pos hin
               exact ⟨A43, c43, O, by rw [hq]; exact (I.dr 1)⟩)
          · replace hb30 := dT hb30; refine Wt O O<|Wq O<|?_; have hin : inB y := ⟨hb16, hb20, hb25, hb30⟩; obtain ⟨rfl, rfl⟩ := Prod.mk.inj (hab hin); have he1 := heff l (16 + y.1, 16 + y.2); refine Wr O<|I.y O (Y.moveV O)<|I.p O O<|I.u O O<|I.u O O<|I.y O (Hr O)<|Ow O (X.callV hfc (fs := []) (cs := []) O O<|(hf (l) (by omega) LA lc (16 + y.1, 16 + y.2) _ [_] (I.up_2.up_2)).mono<|?_); clear I; rintro e w37 ⟨A37, c37, rfl, I⟩; refine ⟨_, O, ?_⟩; replace I := I.dn2.dn2; refine Od O<|Wr O<|I.y O (Y.moveV O)<|I.p O O<|I.u O O<|I.u O O<|I.y O (Hr O)<|Ow O (X.callV hfc (fs := []) (cs := []) O O<|(hf (eff l (16 + y.1, 16 + y.2)) (by omega) A37 c37 (16 + y.2, 16 + y.1) _ [_] (I.up_2.up_2)).mono<|?_); clear I; rintro e w43 ⟨A43, c43, rfl, I⟩; refine ⟨_, O, ?_⟩; replace I := I.dn2.dn2; refine Od O<|⟨_, Ac.none results28, ?_⟩
            first
            | (have hq : C3 eff l y = l := if_neg (by unfold inB; omega)
               exact ⟨LA, lc, O, by rw [hq]; exact (I.dr 1)⟩)
            | (have hq : C3 eff l y = eff (eff l (16 + y.1, 16 + y.2)) (16 + y.2, 16 + y.1) := if_pos hin
               exact ⟨A43, c43, O, by rw [hq]; exact (I.dr 1)⟩)
  refine I.dv [] (T0 [0,1,2,3,4,5,6,7] .nil) O (by kernel_rfl) O (by kernel_rfl) fun _ I => ?_; refine I.zf Ma O O<|I.zl 0 O O O O<|I.z O (Y.add O O)<|I.zf Kq O O<|I.zl 0 O O O O<|I.z O (Y.add O O)<|I.za O O<|I.za O O<|Dd<|?_; exact ⟨(_, _), ⟨O, O, trivial⟩, ⟨O, O, O, trivial⟩, fun h => by unfold inB at h; exact Prod.ext (IntWalk.i64_in _ (by omega)) (IntWalk.i64_in _ (by omega)), I⟩
end
end Go.Proofs.YtaanjifekgfemaaGreat.Cl
namespace Go.Proofs.YtaanjifekgfemaaGreat.K
section
open Tryz Go.RowKit
section
variable {P : Program} {n : Fr} {c : Code} {Q : Ez} {ρ : Env} {w0 w : World} {F0 : List Nat} {L G : List Res} {S : World → Prop} {ty t t' : TypeId} {x y : Operand}
theorem Mw {w : World} {b : Nat} {cs : List Value} {e : TypeId} (h : (Aa b cs e).holds w) : w.shape? b = some (e, cs.length) := by
 obtain ⟨fr, h, _⟩ := h; simp [World.shape?, h]
theorem Y.toUnsafe {e T : TypeId} {ji : TypeInfo} (hs : P.underlying t = some (.pointer e)) (hd : P.underlying t' = some .unsafePointer) (ht : P.info? e = some ji) (hj : ji.size ≠ 0) (j : Nat) {b : Nat} {cs : List Value} (hx : ev ρ x = .pointer (some ⟨b, 0, none⟩)) (hL : L[j]? = some (Aa b cs T)) (hn : Nat.blt 0 cs.length = true) :
  Y P (Ctx w0 F0 L G) ρ (.convert t t' x) ty (.pointer (some ⟨b, 0, none⟩)) := fun w hw o ho _ => by
 have h := Lib.run_to_unsafe (P := P) (w := w) ⟨b, 0, none⟩ hs hd ht hj (Mw (hw.res (.inl (List.mem_of_getElem? hL)))) (by simpa [Nat.blt_eq] using hn); simp [execOp, ho, hx, h]
theorem Y.fromUnsafe {u T : TypeId} {ji : TypeInfo} (hs : P.underlying t = some .unsafePointer) (hd : P.underlying t' = some (.pointer u)) (hu : P.info? u = some ji) (j : Nat) {b : Nat} {cs : List Value} (hx : ev ρ x = .pointer (some ⟨b, 0, none⟩)) (hL : L[j]? = some (Aa b cs T)) (hlies : liesAt P P.depth T (cs.length / P.cellsOf T) 0 u 1 = true) :
  Y P (Ctx w0 F0 L G) ρ (.convert t t' x) ty (.pointer (some ⟨b, 0, none⟩)) := fun w hw o ho _ => by
 have h := Lib.run_from_unsafe (P := P) (w := w) ⟨b, 0, none⟩ hs hd hu (Mw (hw.res (.inl (List.mem_of_getElem? hL)))) hlies; simp [execOp, ho, hx, h]
theorem Y.ext {f : FuncId} {v : Value} {ts : Array TypeId} (hf : ∀ w, (callFunc f #[v]).run P w = .ok (.value v) w) (hx : ev ρ x = v) : Y P S ρ (.call { callee := .value (.func f), args := #[x], argTypes := ts }) ty v := fun w _ o ho _ => by
 have h0 : execOp (ev ρ) o = callFunc f (#[] ++ #[x].map (ev ρ) ++ #[]) := by rcases o with ⟨_, _, _, _, _, _⟩; simp only at ho; subst ho; rfl
 have e : (#[] ++ #[x].map (ev ρ) ++ #[] : Array Value) = #[v] := by simp [hx]
 rw [h0, e]; exact hf w
theorem Y.nePtrSame {e : TypeId} {ji : TypeInfo} {a : Addr} (hp : P.underlying t = some (.pointer e)) (hi : P.info? e = some ji) (hx : ev ρ x = .pointer (some a)) (hy : ev ρ y = .pointer (some a)) : Y P S ρ (.binOp .neq t x y t') ty (.bool false) := fun w _ o ho _ => by
 have he : ∀ w, (eqGuard .neq t x y (.pointer (some a)) (.pointer (some a))).run P w = .ok () w := fun w => by unfold eqGuard; simp
 have h := Lib.run_neq_ptr_same (P := P) (w := w) a hp hi; simp only [execOp, ho, hx, hy]; simp [he, h]
end
section
variable {P : Program} {n : Fr} {c : Code} {Q : Ez} {ρ : Env} {w0 w : World} {F0 : List Nat} {L G : List Res} {S : World → Prop} {ty t t' : TypeId} {x y : Operand}
theorem S6 {u e : TypeId} {i : TypeInfo} (ht : P.underlying t = some (.slice e)) (hu : P.underlying u = some .string) (hi : P.info? e = some i) (hz : i.zero = some (.int .u8 0)) (hs1 : i.size = 1) (hby : i.bytes = 1)
  {g m cp : Nat} {xs : List Value} (hown : w.ownsRow 0 e 1 (.slice (some ⟨g, 0, none⟩) m cp) m xs) (s : ByteArray) (h48 : m + s.size ≤ 140737488355328) {v' : Value} {w' : World} (hr : (Builtin.append_ #[t, u] ty #[.slice (some ⟨g, 0, none⟩) m cp, .string s]).run P w = .ok v' w') :
  v'.ownBlock = some g ∨ v'.ownBlock = some w.heap.size := by
 rcases hown.2 with ⟨h1, _⟩ | ⟨g', cap', cur, h1, _, h3, h4, h5, h6, h7⟩
 ·cases h1
 ·injection h1 with h1 h8 h9; injection h1 with h1; injection h1 with h1; subst h1; subst h9; have hxl : xs.length = m := by simpa using hown.1
  have hcs : cur.size = cp := by simpa using h6
  by_cases hroom : m + s.size ≤ cp
  ·have h := Lib.run_append_room_string (P := P) w t u ty e i ht hu hi hs1 g m cp cur h3 s hroom (by omega); rw [h] at hr; injection hr with hr
   left; rw [← hr]; rfl
  ·have h := Lib.run_append_grow_string (P := P) w t u ty e i (.int .u8 0) ht hu hi hz ⟨g, 0, none⟩ m cp xs (by rw [hs1]; simpa using hxl) (World.ownsRow.cells (g := g) hown rfl) s (by omega) (by omega) (by rw [hby]; exact growslice_fits (by omega) (by omega)); rw [h] at hr; injection hr with hr
   right; rw [← hr]; rfl
theorem X.appStr (I : St w0 F0 w L G) (j : Nat) {u e : TypeId} {i : TypeInfo} (ht : P.underlying t = some (.slice e)) (hu : P.underlying u = some .string) (hi : P.info? e = some i) (hz : i.zero = some (.int .u8 0)) (hs1 : i.size = 1) (hby : i.bytes = 1)
  {g m cp : Nat} {xs : List Value} (hx : ev ρ x = .slice (some ⟨g, 0, none⟩) m cp) (hL : L[j]? = some (Af (.slice (some ⟨g, 0, none⟩) m cp) e 1 m xs)) {s : ByteArray} (hy : ev ρ y = .string s) (h48 : m + s.size ≤ 140737488355328) {K : Value → World → Prop}
  (k : ∀ A' c' w', St w0 F0 w' (L.set j (Af (.slice A' (m + s.size) c') e 1 (m + s.size) (xs ++ Lib.strCells s))) G → K (.slice A' (m + s.size) c') w') : X P ρ w (.call { callee := .builtin .append, args := #[x, y], argTypes := #[t, u] }) ty K := by
 have hown : w.ownsRow 0 e 1 (.slice (some ⟨g, 0, none⟩) m cp) m xs := I.res _ (List.mem_of_getElem? hL); intro a ops Q o ho hty ha hw; obtain ⟨v', w', hrun, hown', hg, _⟩ := Lib.run_append_own_string (P := P) w 0 t u ty e i ht hu hi hz hs1 hby _ m xs hown s (by unfold maxLen; omega) h48 (Nat.zero_le _); have hat := S6 ht hu hi hz hs1 hby hown s h48 hrun; obtain ⟨A', c', rfl, _⟩ := C5 (w := w') (v := v') (e := e) (size := 1) hown'; have hp := I.perm (Hg hL); refine wpl hw (v := .slice A' (m + s.size) c') (w' := w') ?_ ⟨_, O, k A' c' w' ?_⟩
 ·rw [ha]; simp [execOp, ho, resolve, invoke, builtin, hx, hy, hty, hrun]
 ·refine (St.step (L1 := [Af (.slice (some ⟨g, 0, none⟩) m cp) e 1 m xs]) (L2 := [Af (.slice A' (m + s.size) c') e 1 (m + s.size) (xs ++ Lib.strCells s)]) hp hg.os hg.tape hg.output hg.size ?_ ?_ ?_ (by intro r hr; simp at hr; subst hr; exact hown')).perm (Gp hL)
  ·intro b hb hn; refine hg.block b hb (fun h => hn ?_); simp [(C2 _ b).2 h.symm]
  ·intro b hb; simp at hb; have hb' := (C2 _ b).1 hb
   rcases hat with hat | hat
   ·left
    simp [(C2 (.slice (some ⟨g, 0, none⟩) m cp) b).2 (by rw [← hb', hat]; rfl)]
   ·right
    rw [hat] at hb'; injection hb' with hb'; subst hb'; exact ⟨Nat.le_refl _, (World.ownsRow.lt hown' _ hat).2⟩
  ·cases A' <;> simp [Ch]
theorem X.appStrN (I : St w0 F0 w L G) (j : Nat) {u e : TypeId} {i : TypeInfo} (ht : P.underlying t = some (.slice e)) (hu : P.underlying u = some .string) (hi : P.info? e = some i) (hz : i.zero = some (.int .u8 0)) (hs1 : i.size = 1) (hby : i.bytes = 1)
  (hx : ev ρ x = .slice none 0 0) (hL : L[j]? = some (Af (.slice none 0 0) e 1 0 [])) {s : ByteArray} (hy : ev ρ y = .string s) (h0 : 0 < s.size) (h48 : s.size ≤ 140737488355328) {K : Value → World → Prop}
  (k : ∀ A' c' w', St w0 F0 w' (L.set j (Af (.slice A' s.size c') e 1 s.size (Lib.strCells s))) G → K (.slice A' s.size c') w') : X P ρ w (.call { callee := .builtin .append, args := #[x, y], argTypes := #[t, u] }) ty K := by
 have hown : w.ownsRow 0 e 1 (.slice none 0 0) 0 [] := I.res _ (List.mem_of_getElem? hL); intro a ops Q o ho hty ha hw; obtain ⟨v', w', hrun, hown', hg, _⟩ := Lib.run_append_own_string (P := P) w 0 t u ty e i ht hu hi hz hs1 hby _ 0 [] hown s (by unfold maxLen; omega) (by omega) (Nat.zero_le _); have h := run_append_nil_string (P := P) w t u ty e i (.int .u8 0) ht hu hi hz s h0 (by omega) (by rw [hby]; omega); rw [hrun] at h; injection h with hv hw'; subst hv; rw [Nat.zero_add, List.nil_append] at hown'; have hp := I.perm (Hg hL); refine wpl hw (v := .slice (some ⟨w.heap.size, 0, none⟩) s.size (grownCap w s.size 0 e)) (w' := w') ?_ ⟨_, O, k _ _ w' ?_⟩
 ·rw [ha]; simp [execOp, ho, resolve, invoke, builtin, hx, hy, hty, hrun]
 ·refine (St.step (L1 := [Af (.slice none 0 0) e 1 0 []]) (L2 := [Af (.slice (some ⟨w.heap.size, 0, none⟩) s.size (grownCap w s.size 0 e)) e 1 s.size (Lib.strCells s)]) hp hg.os hg.tape hg.output hg.size ?_ ?_ ?_ (by intro r hr; simp at hr; subst hr; exact hown')).perm (Gp hL)
  ·intro b hb hn; exact hg.block b hb (fun h => by cases h)
  ·intro b hb; simp [Ch] at hb; subst hb; exact .inr ⟨Nat.le_refl _, (World.ownsRow.lt hown' _ O).2⟩
  ·simp [Ch]
end
end
end Go.Proofs.YtaanjifekgfemaaGreat.K
namespace Go.Proofs.YtaanjifekgfemaaGreat.Cl
section
open Tryz Go.RowKit YtaanjifekgfemaaGreat.K YtaanjifekgfemaaGreat.W
attribute [local irreducible] Bg Ak Bb sub neg mag Da mul Dy
theorem P3 : FA 307 0 0 := fun _ _ => by simp [Instr.fieldAt, Instr.sureAddr, go_sem]
theorem Ii : FA 307 1 1 := fun _ _ => by simp [Instr.fieldAt, Instr.sureAddr, go_sem]
theorem Bh6 : CF 200 := fun _ _ => by simp [go_sem]
theorem Bjz (v : Value) : ∀ w, (callFunc 202 #[v]).run Tryz.prog w = .ok (.value v) w := fun w => by
 rw [run_callFunc_extern func202 (by kernel_rfl) (by kernel_rfl) (by kernel_rfl) (e := Extern.AbiNoEscape.same) (by kernel_rfl), Go.Lib.run_noEscape]; rfl
theorem Lr (b : Nat) (a : Option Addr) (ha : a = none ∨ a = some ⟨b, 0, none⟩) (v : Value) (w0 w : World) (F0 : List Nat) (L G : List Res) (I : St w0 F0 w (Aa b [.pointer a, v] 307 :: L) G) :
  Calls Tryz.prog 200 #[.pointer (some ⟨b, 0, none⟩)] w fun e w' => e = .returned (.tuple #[]) ∧ St w0 F0 w' (Aa b [.pointer (some ⟨b, 0, none⟩), v] 307 :: L) G := by
 obtain ⟨ji, hji⟩ : ∃ ji, Tryz.prog.info? 307 = some ji ∧ ji.size ≠ 0 := by
  have h : (Tryz.prog.info? 307).map (·.size) = some 2 := by kernel_rfl
  obtain ⟨ji, h1, h2⟩ := Option.map_eq_some_iff.1 h; exact ⟨ji, h1, by rw [h2]; decide⟩
 rcases ha with rfl | rfl
 ·refine W.func func200 O ntmps200 O<|Wh O<|I.p O O<|I.t O O<|I.f P3 O O<|I.y O (Y.load 0 isAgg305 O O O)<|I.y O (Y.isNil underlying305 O O)<|Od O<|Wt O O<|Wr O<|I.p O O<|I.p O O<|I.y O (Y.toUnsafe underlying305 underlying314 hji.1 hji.2 0 O O O)<|I.y O (Y.ext (Bjz _) O)<|I.y O (Y.fromUnsafe underlying314 underlying305 hji.1 0 O O (by kernel_rfl))<|?_; refine I.t O O<|I.f P3 O O<|Ow O (X.storeV I 0 (.pointer _) sizeOf305 O O O O (lZ O) O O fun _ I => Od O<|⟨_, Ac.none results200, ?_⟩); exact ⟨O, I⟩
 ·refine W.func func200 O ntmps200 O<|Wh O<|I.p O O<|I.t O O<|I.f P3 O O<|I.y O (Y.load 0 isAgg305 O O O)<|I.y O (Y.isNil underlying305 O O)<|Od O<|Wu O O<|Wh O<|I.p O O<|I.t O O<|I.f P3 O O<|I.y O (Y.load 0 isAgg305 O O O)<|I.p O O<|I.y O (Y.nePtrSame underlying305 hji.1 O O)<|Od O<|Wu O O<|Wk O<|⟨_, Ac.none results200, ?_⟩; exact ⟨O, I⟩
theorem Oz (b : Nat) (a : Option Addr) (ha : a = none ∨ a = some ⟨b, 0, none⟩) (gb m cp : Nat) (xs : List Value) (s : ByteArray) (h48 : m + s.size ≤ 140737488355328) (w0 w : World) (F0 : List Nat) (L G : List Res) (I : St w0 F0 w (Aa b [.pointer a, .slice (some ⟨gb, 0, none⟩) m cp] 307 :: Af (.slice (some ⟨gb, 0, none⟩) m cp) 5 1 m (xs) :: L) G) :
  Calls Tryz.prog 194 #[.pointer (some ⟨b, 0, none⟩), .string s] w fun e w' => ∃ A' c', e = .returned (.tuple #[.int .i64 s.size, .nilIface]) ∧ St w0 F0 w' (Aa b [.pointer (some ⟨b, 0, none⟩), .slice A' (m + s.size) c'] 307 :: Af (.slice A' (m + s.size) c') 5 1 (m + s.size) (xs ++ Go.Lib.strCells s) :: L) G := by
 obtain ⟨ii, hi⟩ : ∃ ii, Tryz.prog.info? 5 = some ii ∧ ii.zero = some (.int .u8 0) ∧ ii.size = 1 ∧ ii.bytes = 1 := by
  have h : (Tryz.prog.info? 5).map (fun i => (i.zero, i.size, i.bytes)) = some (some (.int .u8 0), 1, 1) := by kernel_rfl
  obtain ⟨ii, h1, h2⟩ := Option.map_eq_some_iff.1 h; simp only [Prod.mk.injEq] at h2; exact ⟨ii, h1, h2⟩
 refine W.func func194 O ntmps194 O<|Wh O<|I.a O O<|I.y O (Y.assignV O)<|Ds O O<|I.p O O<|Ow O (X.ret Bh6 (Lr b a ha _ _ _ _ _ _ I) O fun _ I => Ds O O<|I.p O O<|I.p O O<|I.t O O<|I.f Ii O O<|I.y O (Y.load 0 isAgg172 O O O)<|I.y O (Y.moveT O)<|Ow O (X.appStr I 1 underlying172 underlying9 hi.1 hi.2.1 hi.2.2.1 hi.2.2.2 O O O h48 fun A14 c14 w14 I => I.t O O<|I.f Ii O O<|Ow O (X.storeV I 0 (.slice _ _ _) sizeOf172 O O O O (lZ O) O O fun _ I => Ds O O<|I.y O (Y.moveT O)<|I.y O (Y.lenT underlying9 O)<|I.a O O<|I.y O (Y.assignV O)<|Od O<|We O<|⟨_, Ac.two results194 O O, ?_⟩))); exact ⟨A14, c14, O, I⟩
theorem Pw (b : Nat) (a : Option Addr) (ha : a = none ∨ a = some ⟨b, 0, none⟩) (s : ByteArray) (h0 : 0 < s.size) (h48 : s.size ≤ 140737488355328) (w0 w : World) (F0 : List Nat) (L G : List Res) (I : St w0 F0 w (Aa b [.pointer a, .slice none 0 0] 307 :: Af (.slice none 0 0) 5 1 0 ([]) :: L) G) :
  Calls Tryz.prog 194 #[.pointer (some ⟨b, 0, none⟩), .string s] w fun e w' => ∃ A' c', e = .returned (.tuple #[.int .i64 s.size, .nilIface]) ∧ St w0 F0 w' (Aa b [.pointer (some ⟨b, 0, none⟩), .slice A' s.size c'] 307 :: Af (.slice A' s.size c') 5 1 s.size (Go.Lib.strCells s) :: L) G := by
 obtain ⟨ii, hi⟩ : ∃ ii, Tryz.prog.info? 5 = some ii ∧ ii.zero = some (.int .u8 0) ∧ ii.size = 1 ∧ ii.bytes = 1 := by
  have h : (Tryz.prog.info? 5).map (fun i => (i.zero, i.size, i.bytes)) = some (some (.int .u8 0), 1, 1) := by kernel_rfl
  obtain ⟨ii, h1, h2⟩ := Option.map_eq_some_iff.1 h; simp only [Prod.mk.injEq] at h2; exact ⟨ii, h1, h2⟩
 refine W.func func194 O ntmps194 O<|Wh O<|I.a O O<|I.y O (Y.assignV O)<|Ds O O<|I.p O O<|Ow O (X.ret Bh6 (Lr b a ha _ _ _ _ _ _ I) O fun _ I => Ds O O<|I.p O O<|I.p O O<|I.t O O<|I.f Ii O O<|I.y O (Y.load 0 isAgg172 O O O)<|I.y O (Y.moveT O)<|Ow O (X.appStrN I 1 underlying172 underlying9 hi.1 hi.2.1 hi.2.2.1 hi.2.2.2 O O O h0 h48 fun A14 c14 w14 I => I.t O O<|I.f Ii O O<|Ow O (X.storeV I 0 (.slice _ _ _) sizeOf172 O O O O (lZ O) O O fun _ I => Ds O O<|I.y O (Y.moveT O)<|I.y O (Y.lenT underlying9 O)<|I.a O O<|I.y O (Y.assignV O)<|Od O<|We O<|⟨_, Ac.two results194 O O, ?_⟩))); exact ⟨A14, c14, O, I⟩
end
end Go.Proofs.YtaanjifekgfemaaGreat.Cl
section
namespace Go.Proofs.YtaanjifekgfemaaGreat.K
open Tryz
open Go.RowKit
section
variable {P : Program} {ρ : Env} {S : World → Prop} {ty t t' : TypeId} {x y : Operand}
theorem A34 {m m' : Int} (h : 0 ≤ m) (h1 : 1 ≤ m') : m.tdiv m' = m / m' := Int.tdiv_eq_ediv_of_nonneg h
theorem M3 {m m' M : Int} (h : 0 ≤ m) (hM : m ≤ M) (h1 : 1 ≤ m') : 0 ≤ m / m' ∧ m / m' ≤ M := ⟨Int.ediv_nonneg h (by omega), Int.le_trans (Int.ediv_le_self _ h) hM⟩
theorem Y.quo32 {m m' : Int} (hx : ev ρ x = .int .u32 m) (hy : ev ρ y = .int .u32 m') (h0 : (0 ≤ m ∧ m ≤ 4294967295) ∧ 1 ≤ m') : Y P S ρ (.binOp .quo t x y t') ty (.int .u32 (m / m')) := by
 have h := Y.quo (P := P) (S := S) (t := t) (t' := t') (ty := ty) hx hy (by omega); have h2 := M3 h0.1.1 h0.1.2 h0.2; rwa [A34 h0.1.1 h0.2, IntWalk.u32_in _ h2] at h
theorem Bmz (n : Int) (h : 0 ≤ n ∧ n ≤ 18446744073709551615) : IntKind.u64.wrap n = n := by rw [IntKind.wrap_u64]; omega
theorem Y.quo64 {m m' : Int} (hx : ev ρ x = .int .u64 m) (hy : ev ρ y = .int .u64 m') (h0 : (0 ≤ m ∧ m ≤ 18446744073709551615) ∧ 1 ≤ m') : Y P S ρ (.binOp .quo t x y t') ty (.int .u64 (m / m')) := by
 have h := Y.quo (P := P) (S := S) (t := t) (t' := t') (ty := ty) hx hy (by omega); have h2 := M3 h0.1.1 h0.1.2 h0.2; rwa [A34 h0.1.1 h0.2, Bmz _ h2] at h
theorem Y.mul32 {m m' : Int} (hx : ev ρ x = .int .u32 m) (hy : ev ρ y = .int .u32 m') (h0 : 0 ≤ m * m' ∧ m * m' ≤ 4294967295) : Y P S ρ (.binOp .mul t x y t') ty (.int .u32 (m * m')) := by
 have h := Y.mul (P := P) (S := S) (t := t) (t' := t') (ty := ty) hx hy; rwa [IntWalk.u32_in _ h0] at h
theorem Y.add32 {m m' : Int} (hx : ev ρ x = .int .u32 m) (hy : ev ρ y = .int .u32 m') (h0 : 0 ≤ m + m' ∧ m + m' ≤ 4294967295) : Y P S ρ (.binOp .add t x y t') ty (.int .u32 (m + m')) := by
 have h := Y.add (P := P) (S := S) (t := t) (t' := t') (ty := ty) hx hy; rwa [IntWalk.u32_in _ h0] at h
theorem Y.conv32 {m : Int} (ht : P.underlying t' = some (.int .u32)) {d : TypeDesc} (hs : P.underlying t = some d) (hx : ev ρ x = .int .u64 m) : Y P S ρ (.convert t t' x) ty (.int .u32 (m % 4294967296)) := by
 have h := Y.conv (S := S) (ty := ty) ht hs hx; rwa [IntKind.wrap_u32] at h
end
end Go.Proofs.YtaanjifekgfemaaGreat.K
namespace Go.Proofs.YtaanjifekgfemaaGreat.Cl
open Tryz
open Go.RowKit Go.Proofs.YtaanjifekgfemaaGreat.K Go.Proofs.YtaanjifekgfemaaGreat.W
def smL : List UInt8 := (List.range 100).flatMap fun i => [UInt8.ofNat (48 + i / 10), UInt8.ofNat (48 + i % 10)]
def smB (x : Int) : UInt8 := smL.getD x.toNat 0
theorem Aeq : smL.length = 200 := by decide +kernel
def Mf (cs : List UInt8) (a b x : Int) : List UInt8 := (cs.set (1 + a.toNat * 1) (smB (x + 1))).set (1 + b.toNat * 1) (smB x)
theorem Dz (l : List UInt8) (i : Nat) (c : UInt8) : (bvs l).set i (bv c) = bvs (l.set i c) := by unfold bvs; rw [List.map_set]
theorem Bc (cs : List UInt8) (a b x : Int) : (Mf cs a b x).length = cs.length := by simp [Mf]
structure FS where
  cs : List UInt8
  n : Nat
  u : Int
def Ti (s : FS) : FS where
  cs := Mf (Mf (Mf (Mf s.cs ((s.n : Int) - 1) ((s.n : Int) - 2) (s.u % 100000000 % 4294967296 % 10000 % 100 * 2)) ((s.n : Int) - 3) ((s.n : Int) - 4) (s.u % 100000000 % 4294967296 % 10000 / 100 * 2)) ((s.n : Int) - 5) ((s.n : Int) - 6) (s.u % 100000000 % 4294967296 / 10000 % 100 * 2)) ((s.n : Int) - 7) ((s.n : Int) - 8) (s.u % 100000000 % 4294967296 / 10000 / 100 * 2)
  n := s.n - 8
  u := s.u / 100000000
def Ly : Nat → FS → FS
  | 0, s => s
  | f + 1, s => if 8 ≤ s.n then Ly f (Ti s) else s
theorem Yj {f : Nat} {s : FS} (h : s.n < 8) : Ly f s = s := by
 cases f with
 | zero => rfl
 | succ f => exact if_neg (by omega)
theorem Ad6 {f : Nat} {s : FS} (h : 8 ≤ s.n) (hf : s.n ≤ 8 * f + 7) : ∃ g, f = g + 1 ∧ Ly f s = Ly g (Ti s) := by
 cases f with
 | zero => omega
 | succ f => exact ⟨f, rfl, if_pos h⟩
def t4 (s : FS) : FS := if 4 ≤ s.n then ⟨Mf (Mf s.cs ((s.n : Int) - 1) ((s.n : Int) - 2) (s.u % 10000 % 100 * 2)) ((s.n : Int) - 3) ((s.n : Int) - 4) (s.u % 10000 / 100 * 2), s.n - 4, s.u / 10000⟩ else s
def t2 (s : FS) : FS := if 2 ≤ s.n then ⟨Mf s.cs ((s.n : Int) - 1) ((s.n : Int) - 2) (s.u % 100 * 2), s.n - 2, s.u / 100⟩ else s
def t1 (s : FS) : List UInt8 := if 0 < s.n then s.cs.set 1 (ub (IntKind.u32.wrap (48 + s.u))) else s.cs
def Lt (s : FS) : FS := { s with u := s.u % 4294967296 }
def Jh (cs : List UInt8) (n : Nat) (u : Int) : List UInt8 := t1 (t2 (t4 (Lt (Ly 3 ⟨cs, n, u⟩))))
theorem Pf (s : FS) : (Ti s).cs.length = s.cs.length := by simp [Ti, Bc]
theorem V9 (f : Nat) (s : FS) : (Ly f s).cs.length = s.cs.length := by
  induction f generalizing s with
  | zero => rfl
  | succ f ih =>
    unfold Ly; split
    · rw [ih, Pf]
    · rfl
theorem At5 (s : FS) : (t4 s).cs.length = s.cs.length := by
 unfold t4; split
 ·show (Mf (Mf _ _ _ _) _ _ _).length = _; rw [Bc, Bc]
 ·rfl
theorem At4 (s : FS) : (t2 s).cs.length = s.cs.length := by
 unfold t2; split
 ·show (Mf _ _ _ _).length = _; rw [Bc]
 ·rfl
theorem At3 (s : FS) : (t1 s).length = s.cs.length := by
 unfold t1; split
 ·rw [List.length_set]
 ·rfl
theorem D9 (cs : List UInt8) (n : Nat) (u : Int) : (Jh cs n u).length = cs.length := by
 unfold Jh; rw [At3, At4, At5]; exact V9 3 ⟨cs, n, u⟩
end Go.Proofs.YtaanjifekgfemaaGreat.Cl
end
