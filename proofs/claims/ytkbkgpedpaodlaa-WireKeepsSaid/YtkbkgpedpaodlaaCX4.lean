/- The walks of Seal and Open, and of the reference's. -/
import Derived.Test.YtkbkgpedpaodlaaK4
import Derived.Test.YtkbkgpedpaodlaaCX2
import Derived.Test.YtkbkgpedpaodlaaCM2
set_option linter.unusedVariables false
set_option linter.unusedSimpArgs false
namespace Go.Proofs.Ytkbkgpedpaodlaa.CW
open Go.RowKit Go.Proofs.Ytkbkgpedpaodlaa.K Go.Proofs.Ytkbkgpedpaodlaa.CM

theorem byte0 (c : W32) : (iv c) % 256 = ((UInt8.ofNat c.toNat).toNat : Int) := by unfold iv; rw [UInt8.toNat_ofNat']; omega
theorem byte1 (c : W32) : (iv c) / 256 % 256 = ((UInt8.ofNat (c.toNat / 256)).toNat : Int) := by unfold iv; rw [UInt8.toNat_ofNat']; omega
theorem byte2 (c : W32) : (iv c) / 65536 % 256 = ((UInt8.ofNat (c.toNat / 65536)).toNat : Int) := by unfold iv; rw [UInt8.toNat_ofNat']; omega
theorem byte3 (c : W32) : (iv c) / 16777216 = ((UInt8.ofNat (c.toNat / 16777216)).toNat : Int) := by unfold iv; rw [UInt8.toNat_ofNat']; have := c.isLt; omega

attribute [local irreducible] iv crc more reg turns

theorem info8 : (Try.prog.info? 5).map (fun i => (i.zero, i.size, i.bytes)) = some (some (.int .u8 0), 1, 1) := by kernel_rfl

set_option maxHeartbeats 4000000 in
theorem seal_any (v : Value) (l : List UInt8) (w0 w : World) (F0 : List Nat) (L G : List Res) (hst : St w0 F0 w L G) (h : Rds L G v l.length (bvs l)) (hl : l.length ≤ 140737488355320) :
    Calls Try.prog 25 #[v] w fun e w' => ∃ b, e = .returned (.slice (some ⟨b, 0, none⟩) (l.length + 4) (l.length + 4)) ∧ St w0 F0 w' (cellsR b (bvs (sealed l)) 5 :: L) G := by
  obtain ⟨A, c, rfl, -, -⟩ := h.sl hst
  have hc := iv_range (crc l)
  go_enter Try.func25, Try.ntmps25
  go_wp2_with (first
    | (refine wpList_opK ?_
       first
       | (refine r_lit1 hst (by rfl) rfl Try.underlying76 rfl (fun _ => Try.sizeOf41 _) rfl (fun _ => Try.zeroValue41 _) (by decide) ?_; clear hst; intro b1 w1 hst; try simp only [Act.eval, Act.put, List.setIfInBounds_toArray, List.set_cons_zero, List.set_cons_succ, Array.getD_eq_getD_getElem?, List.getElem?_toArray, List.getElem?_cons_zero, List.getElem?_cons_succ, Option.getD_some, Value.cells, List.toList_toArray] at hst ⊢)
       | (refine r_make hst (by rfl) rfl Try.underlying41 info8 rfl (n := l.length + 4) rfl rfl (by omega) (by omega) ?_; clear hst; intro b2 w1 hst; try simp only [Act.eval, Act.put, List.setIfInBounds_toArray, List.set_cons_zero, List.set_cons_succ, Array.getD_eq_getD_getElem?, List.getElem?_toArray, List.getElem?_cons_zero, List.getElem?_cons_succ, Option.getD_some, Value.cells, List.toList_toArray] at hst ⊢)
       | (refine r_copy hst 0 (by rfl) rfl Try.underlying41 (fun _ => Try.sizeOf5 _) (off := 0) rfl rfl rfl (h.cons _) (by simp) (bvs_ones _) (by omega) (by simp) ?_; clear hst; intro w1 hst; try simp only [Act.eval, Act.put, List.setIfInBounds_toArray, List.set_cons_zero, List.set_cons_succ, Array.getD_eq_getD_getElem?, List.getElem?_toArray, List.getElem?_cons_zero, List.getElem?_cons_succ, Option.getD_some, Value.cells, List.toList_toArray] at hst ⊢)
       | (refine r_lits hst (by rfl) rfl (vs := bvs (le4 (crc l))) (by simp [Act.eval, byte0, byte1, byte2, byte3, idx, bvs, le4, bv]) rfl rfl Try.underlying41 (fun _ => Try.sizeOf5 _) (fun _ => Try.zeroValue5 _) (by decide) ?_; clear hst; intro b3 w1 hst; try simp only [Act.eval, Act.put, List.setIfInBounds_toArray, List.set_cons_zero, List.set_cons_succ, Array.getD_eq_getD_getElem?, List.getElem?_toArray, List.getElem?_cons_zero, List.getElem?_cons_succ, Option.getD_some, Value.cells, List.toList_toArray] at hst ⊢)
       | (refine r_copy hst 1 (by rfl) rfl Try.underlying41 (fun _ => Try.sizeOf5 _) (off := l.length) rfl rfl rfl (Rds.ofCells 0 rfl 4 4) (by simp [le4_length]) (bvs_ones _) (by omega) (by rw [splice_length _ _ _ (by simp)]; simp [le4_length]) ?_; clear hst; intro w1 hst; try simp only [Act.eval, Act.put, List.setIfInBounds_toArray, List.set_cons_zero, List.set_cons_succ, Array.getD_eq_getD_getElem?, List.getElem?_toArray, List.getElem?_cons_zero, List.getElem?_cons_succ, Option.getD_some, Value.cells, List.toList_toArray] at hst ⊢))
    | (go_at_call 34
       refine use_call (sum_any (.slice (some ⟨b1, 0, none⟩) 1 1) [.slice A l.length c] [l] _ ((Rds.ofCells 0 rfl 1 1).sl hst) ⟨⟨(h.cons _).sl hst, by omega⟩, trivial⟩ (by simp)) rfl ?_
       rintro e w' ⟨rfl, rfl⟩; replace hst := hst.drop))
  go_ret
  refine ⟨b2, rfl, ?_⟩
  have e : splice (splice (List.replicate (l.length + 4) (.int .u8 0)) 0 (bvs l)) l.length (bvs (le4 (crc l))) = bvs (sealed l) := by
    unfold splice sealed
    rw [bvs_append]
    simp [le4_length]
  rw [e] at hst
  exact hst.drop

theorem open_short (v : Value) (l : List UInt8) (w0 w : World) (F0 : List Nat) (L G : List Res) (hst : St w0 F0 w L G) (h : Rds L G v l.length (bvs l)) (hl : l.length < 4) :
    Calls Try.prog 30 #[v] w fun e w' => e = .returned (.tuple #[.slice none 0 0, .bool false]) ∧ St w0 F0 w' L G := by
  obtain ⟨A, c, rfl, -, -⟩ := h.sl hst
  have hd : decide ((l.length : Int) - 4 < 0) = true := by simp; omega
  go_enter Try.func30, Try.ntmps30
  go_wp2
  go_ret2
  exact ⟨rfl, hst⟩

/-- Which bytes part. -/
theorem part4 (c : W32) (s0 s1 s2 s3 : UInt8) :
    ([s0, s1, s2, s3] = le4 c ∧ ((s0.toNat : Int) != iv c % 256) = false ∧ ((s1.toNat : Int) != iv c / 256 % 256) = false ∧ ((s2.toNat : Int) != iv c / 65536 % 256) = false ∧ ((s3.toNat : Int) != iv c / 16777216) = false) ∨
    ([s0, s1, s2, s3] ≠ le4 c ∧ (((s0.toNat : Int) != iv c % 256) = true ∨
      ((s0.toNat : Int) != iv c % 256) = false ∧ (((s1.toNat : Int) != iv c / 256 % 256) = true ∨
        ((s1.toNat : Int) != iv c / 256 % 256) = false ∧ (((s2.toNat : Int) != iv c / 65536 % 256) = true ∨
          ((s2.toNat : Int) != iv c / 65536 % 256) = false ∧ ((s3.toNat : Int) != iv c / 16777216) = true)))) := by
  rw [byte0, byte1, byte2, byte3]
  simp only [le4, List.cons.injEq, and_true, ne_eq, bne_eq_false_iff_eq, bne_iff_ne]
  have q : ∀ a b : UInt8, (a.toNat : Int) = (b.toNat : Int) ↔ a = b := fun a b => ⟨fun h => UInt8.toNat_inj.1 (by omega), fun h => by rw [h]⟩
  simp only [q]
  by_cases h0 : s0 = UInt8.ofNat c.toNat <;> by_cases h1 : s1 = UInt8.ofNat (c.toNat / 256) <;> by_cases h2 : s2 = UInt8.ofNat (c.toNat / 65536) <;> by_cases h3 : s3 = UInt8.ofNat (c.toNat / 16777216) <;> simp [h0, h1, h2, h3]

/-- The four bytes behind, where the world is another by now. -/
theorem tail4 {w : World} {ad : Addr} {n c : Nat} {p : List UInt8} {s0 s1 s2 s3 : UInt8} (h : Sl w (.slice (some ad) n c) n (bvs (p ++ [s0, s1, s2, s3]))) :
    w.cell? (ad.add p.length) = some (.int .u8 (s0.toNat : Int)) ∧ w.cell? ⟨ad.block, ad.off + (p.length + 1), none⟩ = some (.int .u8 (s1.toNat : Int)) ∧
    w.cell? ⟨ad.block, ad.off + (p.length + 2), none⟩ = some (.int .u8 (s2.toNat : Int)) ∧ w.cell? ⟨ad.block, ad.off + (p.length + 3), none⟩ = some (.int .u8 (s3.toNat : Int)) := by
  obtain ⟨A, cap, he, hcap, hA⟩ := h
  injection he with he
  obtain ⟨ad', rfl, hc⟩ := hA (by simp [bvs])
  injection he with he
  subst he
  have e : ∀ k, (⟨ad.block, ad.off + (p.length + (k + 1)), none⟩ : Addr) = ad.add (p.length + (k + 1)) := fun k => by simp [Addr.add]
  refine ⟨?_, ?_, ?_, ?_⟩
  · rw [hc _ (by simp)]; simp [bvs, bv]
  · rw [e 0, hc _ (by simp)]; simp [bvs, bv]
  · rw [e 1, hc _ (by simp)]; simp [bvs, bv]
  · rw [e 2, hc _ (by simp)]; simp [bvs, bv]
/-- A piece of a slice that is read. -/
theorem Sl.take {w : World} {A : Option Addr} {n c m : Nat} {l : List UInt8} (h : Sl w (.slice A n c) n (bvs l)) (hn : n = l.length) (hm : m ≤ n) : Sl w (.slice A m c) m (bvs (l.take m)) := by
  obtain ⟨A', cap, he, hcap, hA⟩ := h
  injection he with h1 h2 h3
  subst h1; subst h3
  refine ⟨A, c, rfl, by omega, fun hx => ?_⟩
  obtain ⟨ad, rfl, hc⟩ := hA (by intro h; apply hx; have : l = [] := by cases l; rfl; simp [bvs] at h
                                 subst this; simp [bvs])
  refine ⟨ad, rfl, fun j hj => ?_⟩
  simp only [bvs_length, List.length_take] at hj
  rw [hc j (by simp; omega)]
  simp only [bvs, List.map_take]
  rw [List.getElem?_take_of_lt (by omega)]
theorem Rds.take {L G : List Res} {A : Option Addr} {n c m : Nat} {l : List UInt8} (h : Rds L G (.slice A n c) n (bvs l)) (hn : n = l.length) (hm : m ≤ n) : Rds L G (.slice A m c) m (bvs (l.take m)) := by
  obtain ⟨r, hr, hi⟩ := h
  exact ⟨r, hr, fun w hw => Sl.take (hi w hw) hn hm⟩

set_option maxHeartbeats 4000000 in
theorem open_no (v : Value) (p : List UInt8) (s0 s1 s2 s3 : UInt8) (w0 w : World) (F0 : List Nat) (L G : List Res) (hst : St w0 F0 w L G) (h : Rds L G v (p.length + 4) (bvs (p ++ [s0, s1, s2, s3])))
    (hl : p.length ≤ 140737488355320) (hne : [s0, s1, s2, s3] ≠ le4 (crc p)) :
    Calls Try.prog 30 #[v] w fun e w' => e = .returned (.tuple #[.slice none 0 0, .bool false]) ∧ St w0 F0 w' L G := by
  obtain ⟨A, c, rfl, hcap, hA⟩ := h.sl hst
  obtain ⟨ad, rfl, -⟩ := hA (by simp [bvs])
  clear hA
  have hp : Rds L G (.slice (some ad) p.length c) p.length (bvs p) := by
    have := Rds.take (m := p.length) h (by simp) (by omega)
    rwa [List.take_left] at this
  have hd : decide ((p.length : Int) < 0) = false := by simp
  have hc0 := iv_range (crc p)
  rcases part4 (crc p) s0 s1 s2 s3 with ⟨he, _⟩ | ⟨_, hparts⟩
  · exact absurd he hne
  rcases hparts with t0 | ⟨t0, t1 | ⟨t1, t2 | ⟨t2, t3⟩⟩⟩
  all_goals
    go_enter Try.func30, Try.ntmps30
    go_wp2_with (first
      | (refine wpList_opK ?_
         first
         | (refine r_lit1 hst (by rfl) rfl Try.underlying76 rfl (fun _ => Try.sizeOf41 _) rfl (fun _ => Try.zeroValue41 _) (by decide) ?_; clear hst; intro b1 w1 hst; try simp only [Act.eval, Act.put, List.setIfInBounds_toArray, List.set_cons_zero, List.set_cons_succ, Array.getD_eq_getD_getElem?, List.getElem?_toArray, List.getElem?_cons_zero, List.getElem?_cons_succ, Option.getD_some, Value.cells, List.toList_toArray] at hst ⊢))
      | (go_at_call 34
         refine use_call (sum_any (.slice (some ⟨b1, 0, none⟩) 1 1) [.slice (some ad) p.length c] [p] _ ((Rds.ofCells 0 rfl 1 1).sl hst) ⟨⟨(hp.cons _).sl hst, by omega⟩, trivial⟩ (by simp)) rfl ?_
         rintro e w' ⟨rfl, rfl⟩; replace hst := hst.drop
         obtain ⟨q0, q1, q2, q3⟩ := tail4 (h.sl hst)))
    go_ret2
    exact ⟨rfl, hst⟩

set_option maxHeartbeats 4000000 in
theorem open_yes (v : Value) (p : List UInt8) (w0 w : World) (F0 : List Nat) (L G : List Res) (hst : St w0 F0 w L G) (h : Rds L G v (p.length + 4) (bvs (sealed p)))
    (hl : p.length ≤ 140737488355320) :
    Calls Try.prog 30 #[v] w fun e w' => ∃ u, e = .returned (.tuple #[u, .bool true]) ∧ St w0 F0 w' (rowR u 5 1 p.length (bvs p) :: L) G := by
  obtain ⟨s0, s1, s2, s3, hs⟩ : ∃ s0 s1 s2 s3, le4 (crc p) = [s0, s1, s2, s3] := ⟨_, _, _, _, rfl⟩
  unfold sealed at h
  rw [hs] at h
  obtain ⟨A, c, rfl, hcap, hA⟩ := h.sl hst
  obtain ⟨ad, rfl, -⟩ := hA (by simp [bvs])
  clear hA
  have hp : Rds L G (.slice (some ad) p.length c) p.length (bvs p) := by
    have := Rds.take (m := p.length) h (by simp) (by omega)
    rwa [List.take_left] at this
  have hd : decide ((p.length : Int) < 0) = false := by simp
  have hc0 := iv_range (crc p)
  rcases part4 (crc p) s0 s1 s2 s3 with ⟨he, t0, t1, t2, t3⟩ | ⟨hne, _⟩
  · clear he hs
    go_enter Try.func30, Try.ntmps30
    go_wp2_with (first
      | (refine wpList_opK ?_
         first
         | (refine r_lit1 hst (by rfl) rfl Try.underlying76 rfl (fun _ => Try.sizeOf41 _) rfl (fun _ => Try.zeroValue41 _) (by decide) ?_; clear hst; intro b1 w1 hst; try simp only [Act.eval, Act.put, List.setIfInBounds_toArray, List.set_cons_zero, List.set_cons_succ, Array.getD_eq_getD_getElem?, List.getElem?_toArray, List.getElem?_cons_zero, List.getElem?_cons_succ, Option.getD_some, Value.cells, List.toList_toArray] at hst ⊢)
         | (refine r_litRow hst (by rfl) rfl Try.underlying41 (fun _ => Try.sizeOf5 _) ?_; clear hst; rintro v2 w1 hst -; try simp only [Act.eval, Act.put, List.setIfInBounds_toArray, List.set_cons_zero, List.set_cons_succ, Array.getD_eq_getD_getElem?, List.getElem?_toArray, List.getElem?_cons_zero, List.getElem?_cons_succ, Option.getD_some, Value.cells, List.toList_toArray] at hst ⊢)
         | (refine r_append hst 0 (by rfl) rfl Try.underlying41 info8 rfl (by decide) (v := v2) (n := 0) (xs := []) rfl rfl (m := p.length) (news := bvs p) rfl (hp.cons _) (by simp) (bvs_ones _) (by simp only [maxLen]; omega) (by omega) ?_; clear hst; rintro v3 w1 hst -; try simp only [Act.eval, Act.put, List.setIfInBounds_toArray, List.set_cons_zero, List.set_cons_succ, Array.getD_eq_getD_getElem?, List.getElem?_toArray, List.getElem?_cons_zero, List.getElem?_cons_succ, Option.getD_some, Value.cells, List.toList_toArray] at hst ⊢))
      | (go_at_call 34
         refine use_call (sum_any (.slice (some ⟨b1, 0, none⟩) 1 1) [.slice (some ad) p.length c] [p] _ ((Rds.ofCells 0 rfl 1 1).sl hst) ⟨⟨(hp.cons _).sl hst, by omega⟩, trivial⟩ (by simp)) rfl ?_
         rintro e w' ⟨rfl, rfl⟩; replace hst := hst.drop
         obtain ⟨q0, q1, q2, q3⟩ := tail4 (h.sl hst)))
    go_ret2
    refine ⟨v3, rfl, ?_⟩
    simpa using hst
  · exact absurd hs.symm hne
end Go.Proofs.Ytkbkgpedpaodlaa.CW
