/- Frames and messages, plain. -/
import Derived.Test.YtkbkgpedpaodlaaWK
set_option linter.unusedVariables false
set_option linter.unusedSimpArgs false
namespace Go.Proofs.Ytkbkgpedpaodlaa.W
open Go.RowKit Go.Proofs.Ytkbkgpedpaodlaa.K Go.Proofs.Ytkbkgpedpaodlaa.CM
theorem by8_nat (n : Int) (j : Nat) : (by8 n j).toNat = (n % 18446744073709551616).toNat / 2 ^ (8 * (7 - j)) % 256 := by
  unfold by8
  rw [UInt8.toNat_ofNat', show (2 : Nat) ^ 8 = 256 from rfl]
theorem be8_eq (n : Int) : be8 n = [by8 n 0, by8 n 1, by8 n 2, by8 n 3, by8 n 4, by8 n 5, by8 n 6, by8 n 7] := rfl
theorem rdn_be8 (n : Int) : rdn (be8 n) = (n % 18446744073709551616).toNat := by
  rw [be8_eq]
  simp only [rdn, List.foldl_cons, List.foldl_nil, by8_nat]
  have h : (n % 18446744073709551616).toNat < 18446744073709551616 := by omega
  generalize (n % 18446744073709551616).toNat = u at h
  simp only [Nat.reduceSub, Nat.reduceMul, Nat.reducePow]
  omega
theorem rd8_be8 (n : Int) (h : In64 n) : rd8 (be8 n) = n := by
  unfold rd8
  rw [rdn_be8, IntKind.wrap_i64]
  unfold In64 at h
  omega
theorem opn_sealed (p : List UInt8) : opn (sealed p) = some p := by
  unfold opn
  have h1 : (sealed p).length = p.length + 4 := sealed_len p
  have h2 : (sealed p).take ((sealed p).length - 4) = p := by rw [h1]; unfold sealed; simp
  have h3 : (sealed p).drop ((sealed p).length - 4) = le4 (crc p) := by rw [h1]; unfold sealed; simp
  rw [if_neg (by omega), h2, h3, if_pos rfl]
theorem opn_some {l p : List UInt8} (h : opn l = some p) : l = sealed p := by
  unfold opn at h
  split at h
  · cases h
  · split at h
    · rename_i h1 h2
      injection h with h
      subst h
      unfold sealed
      rw [← h2, List.take_append_drop]
    · cases h
theorem nums_cons (x : Int) (l : List Int) : nums (x :: l) = be8 x ++ nums l := rfl
theorem nums_chunk : ∀ (xs : List Int) (i : Nat), i < xs.length → ((nums xs).drop (8 * i)).take 8 = be8 (xs.getD i 0)
  | [], _, h => by simp at h
  | x :: l, 0, _ => by
    rw [nums_cons, Nat.mul_zero, List.drop_zero, List.take_append_of_le_length (by simp), List.take_of_length_le (by simp)]
    rfl
  | x :: l, i + 1, h => by
    rw [nums_cons, show 8 * (i + 1) = (be8 x).length + 8 * i by rw [be8_length]; omega, List.drop_append, List.drop_of_length_le (by omega), List.nil_append, Nat.add_sub_cancel_left]
    exact nums_chunk l i (by simpa using h)
theorem numAt_of {hd : List UInt8} {xs : List Int} {i : Nat} (h4 : hd.length = 4) (hi : i < xs.length) (hw : ∀ x ∈ xs, In64 x) : numAt (hd ++ nums xs) i = xs.getD i 0 := by
  unfold numAt
  rw [List.drop_append, List.drop_of_length_le (by omega), List.nil_append, h4, Nat.add_sub_cancel_left, nums_chunk xs i hi]
  exact rd8_be8 _ (hw _ (getD_mem hi))
theorem ub_nat {n : Int} (h : 0 ≤ n ∧ n < 256) : ((ub n).toNat : Int) = n := by
  unfold ub
  rw [UInt8.toNat_ofNat', show (2 : Nat) ^ 8 = 256 from rfl]
  omega
theorem tin_get : ∀ (l : List (Int × Int)) (i : Nat), i < l.length → (tin l).getD (2 * i) 0 = (l.getD i (0, 0)).1 ∧ (tin l).getD (2 * i + 1) 0 = (l.getD i (0, 0)).2
  | [], _, h => by simp at h
  | x :: l, 0, _ => ⟨rfl, rfl⟩
  | x :: l, i + 1, h => by
    have := tin_get l i (by simpa using h)
    rw [show 2 * (i + 1) = 2 * i + 1 + 1 by omega]
    exact this
/-- The numbers of a message, in the frame's order. -/
def M.xs (m : M) : List Int := [m.slo, m.shi, m.held, m.hops, m.elo, m.ehi, m.pulse, m.time, m.num] ++ tin m.tab
def M.fr (m : M) : List UInt8 := W.fr m.kind m.from_ m.slo m.shi m.held m.hops m.good m.ref m.elo m.ehi m.pulse m.time m.num m.tab
theorem M.fr_eq (m : M) : m.fr = hd4 m.kind m.from_ m.good m.ref m.tab.length ++ nums m.xs := by
  unfold M.fr W.fr M.xs
  rw [nums_append, List.append_assoc]
def M.In (m : M) : Prop := MsgIn m.kind m.from_ m.slo m.shi m.held m.hops m.elo m.ehi m.pulse m.time m.num m.tab
theorem M.xs_in {m : M} (h : m.In) : ∀ x ∈ m.xs, In64 x := by
  obtain ⟨_, h2, h3⟩ := h
  intro x hx
  unfold M.xs at hx
  rcases List.mem_append.1 hx with hx | hx
  · exact nines h3 x hx
  · simp only [tin, List.mem_flatMap] at hx
    obtain ⟨y, hy, hx⟩ := hx
    have := h2 y hy
    simp only [List.mem_cons, List.not_mem_nil, or_false] at hx
    rcases hx with rfl | rfl
    · exact this.1
    · exact this.2
theorem M.nth {m : M} (h : m.In) {i : Nat} (hi : i < 9 + 2 * m.tab.length) : numAt m.fr i = m.xs.getD i 0 := by
  rw [M.fr_eq]
  exact numAt_of rfl (by unfold M.xs; rw [List.length_append, tin_length]; exact hi) (M.xs_in h)
theorem rdM_fr (m : M) (hok : m.Ok) (h : m.In) : rdM m.fr = m := by
  obtain ⟨⟨hk, hf, _⟩, ht, _⟩ := hok
  have g0 : gb m.fr 0 = ub m.kind := rfl
  have g1 : gb m.fr 1 = ub m.from_ := rfl
  have g2 : gb m.fr 2 = ub (fl m.good m.ref) := rfl
  have g3 : gb m.fr 3 = ub (m.tab.length : Int) := rfl
  have e3 : (ub (m.tab.length : Int)).toNat = m.tab.length := by have := ub_nat (n := m.tab.length) (by omega); omega
  have et : rdTab m.fr m.tab.length = m.tab := by
    apply List.ext_getElem
    · rw [rdTab_length]
    · intro i h1 h2
      have hg := tin_get m.tab i h2
      have hn1 := M.nth h (i := 9 + 2 * i) (by omega)
      have hn2 := M.nth h (i := 10 + 2 * i) (by omega)
      have c1 : m.xs.getD (9 + 2 * i) 0 = (tin m.tab).getD (2 * i) 0 := by rw [show 9 + 2 * i = 2 * i + 1 + 1 + 1 + 1 + 1 + 1 + 1 + 1 + 1 by omega]; rfl
      have c2 : m.xs.getD (10 + 2 * i) 0 = (tin m.tab).getD (2 * i + 1) 0 := by rw [show 10 + 2 * i = 2 * i + 1 + 1 + 1 + 1 + 1 + 1 + 1 + 1 + 1 + 1 by omega]; rfl
      have hgd : m.tab.getD i (0, 0) = m.tab[i] := by simp [h2]
      simp only [rdTab, List.getElem_map, List.getElem_range]
      rw [hn1, hn2, c1, c2, hg.1, hg.2, hgd]
  have n0 := M.nth h (i := 0) (by omega)
  have n1 := M.nth h (i := 1) (by omega)
  have n2 := M.nth h (i := 2) (by omega)
  have n3 := M.nth h (i := 3) (by omega)
  have n4 := M.nth h (i := 4) (by omega)
  have n5 := M.nth h (i := 5) (by omega)
  have n6 := M.nth h (i := 6) (by omega)
  have n7 := M.nth h (i := 7) (by omega)
  have n8 := M.nth h (i := 8) (by omega)
  have b0 := ub_nat (n := m.kind) (by omega)
  have b1 := ub_nat (n := m.from_) (by omega)
  have f1 : decide ((ub (fl m.good m.ref)).toNat % 2 = 1) = m.good := by cases m.good <;> cases m.ref <;> rfl
  have f2 : decide ((ub (fl m.good m.ref)).toNat / 2 % 2 = 1) = m.ref := by cases m.good <;> cases m.ref <;> rfl
  unfold rdM
  rw [g0, g1, g2, g3, e3, et, n0, n1, n2, n3, n4, n5, n6, n7, n8, b0, b1, f1, f2]
  rfl
end Go.Proofs.Ytkbkgpedpaodlaa.W
