/- Frames and messages, plain: what is read has that frame. -/
import Derived.Test.YtkbkgpedpaodlaaWP
set_option linter.unusedVariables false
set_option linter.unusedSimpArgs false
namespace Go.Proofs.Ytkbkgpedpaodlaa.W
open Go.RowKit Go.Proofs.Ytkbkgpedpaodlaa.K Go.Proofs.Ytkbkgpedpaodlaa.CM
theorem form_fr (m : M) (hok : m.Ok) : FormOk m.fr := by
  have ht : m.tab.length ≤ 32 := hok.2.1
  have e3 : (ub (m.tab.length : Int)).toNat = m.tab.length := by have := ub_nat (n := m.tab.length) (by omega); omega
  have hl : m.fr.length = 76 + 16 * m.tab.length := fr_length ..
  have g2 : gb m.fr 2 = ub (fl m.good m.ref) := rfl
  have g3 : gb m.fr 3 = ub (m.tab.length : Int) := rfl
  refine ⟨by omega, by rw [g3, e3, hl], ?_⟩
  rw [g2]
  cases m.good <;> cases m.ref <;> decide
theorem decR_fr (m : M) (hok : m.Ok) (h : m.In) : decR (sealed m.fr) = (m, 0) := by
  have ht : m.tab.length ≤ 32 := hok.2.1
  have hl : m.fr.length = 76 + 16 * m.tab.length := fr_length ..
  have e := rdM_fr m hok h
  rw [decR_ok (p := m.fr) (by rw [sealed_len]; omega) (opn_sealed _) (form_fr m hok) (by rw [e]; exact hok), e]
theorem eight_of {l : List UInt8} (h : l.length = 8) : ∃ a b c d e f g i, l = [a, b, c, d, e, f, g, i] := by
  match l, h with
  | [a, b, c, d, e, f, g, i], _ => exact ⟨a, b, c, d, e, f, g, i, rfl⟩
theorem u8_eq {n : Nat} {c : UInt8} (h : n % 256 = c.toNat) : UInt8.ofNat n = c := by
  apply UInt8.toNat_inj.1
  rw [UInt8.toNat_ofNat', show (2 : Nat) ^ 8 = 256 from rfl]
  exact h
theorem be8_rd8 {l : List UInt8} (h : l.length = 8) : be8 (rd8 l) = l := by
  have hlt := rdn_lt l
  rw [h] at hlt
  have e : (rd8 l % 18446744073709551616).toNat = rdn l := by
    unfold rd8
    rw [IntKind.wrap_i64]
    have : (256 : Nat) ^ 8 = 18446744073709551616 := by decide
    omega
  obtain ⟨a, b, c, d, e', f, g, i, rfl⟩ := eight_of h
  have h0 := UInt8.toNat_lt a
  have h1 := UInt8.toNat_lt b
  have h2 := UInt8.toNat_lt c
  have h3 := UInt8.toNat_lt d
  have h4 := UInt8.toNat_lt e'
  have h5 := UInt8.toNat_lt f
  have h6 := UInt8.toNat_lt g
  have h7 := UInt8.toNat_lt i
  have hr : rdn [a, b, c, d, e', f, g, i] = ((((((((a.toNat * 256 + b.toNat) * 256 + c.toNat) * 256) + d.toNat) * 256 + e'.toNat) * 256 + f.toNat) * 256 + g.toNat) * 256 + i.toNat) := by
    simp [rdn]
  rw [be8_eq]
  unfold by8
  rw [e, hr]
  simp only [Nat.reduceSub, Nat.reduceMul, Nat.reducePow]
  congr 1
  · exact u8_eq (by omega)
  congr 1
  · exact u8_eq (by omega)
  congr 1
  · exact u8_eq (by omega)
  congr 1
  · exact u8_eq (by omega)
  congr 1
  · exact u8_eq (by omega)
  congr 1
  · exact u8_eq (by omega)
  congr 1
  · exact u8_eq (by omega)
  congr 1
  · exact u8_eq (by omega)
theorem nums_read : ∀ (k : Nat) (s : List UInt8), s.length = 8 * k → nums ((List.range k).map fun i => rd8 ((s.drop (8 * i)).take 8)) = s
  | 0, s, h => by
    have : s = [] := List.eq_nil_of_length_eq_zero (by omega)
    subst this; rfl
  | k + 1, s, h => by
    have ih := nums_read k (s.drop 8) (by rw [List.length_drop]; omega)
    rw [List.range_succ_eq_map, List.map_cons, nums_cons, List.map_map]
    have e : ((List.range k).map ((fun i => rd8 ((s.drop (8 * i)).take 8)) ∘ Nat.succ)) = (List.range k).map fun i => rd8 (((s.drop 8).drop (8 * i)).take 8) := by
      apply List.map_congr_left
      intro i _
      simp only [Function.comp, List.drop_drop]
      rw [show 8 * i.succ = 8 + 8 * i by omega]
    rw [e, ih, Nat.mul_zero, List.drop_zero, be8_rd8 (by rw [List.length_take]; omega), List.take_append_drop]
theorem tin_range (f : Nat → Int) (n a : Nat) : tin ((List.range n).map fun i => (f (a + 2 * i), f (a + 1 + 2 * i))) = (List.range (2 * n)).map fun i => f (a + i) := by
  induction n with
  | zero => rfl
  | succ n ih =>
    rw [List.range_succ, List.map_append]
    unfold tin at ih ⊢
    rw [List.flatMap_append, ih, show 2 * (n + 1) = 2 * n + 1 + 1 by omega, List.range_succ, List.range_succ]
    simp
    congr 1
    omega
theorem fr_rdM {p : List UInt8} (h : FormOk p) : (rdM p).fr = p := by
  obtain ⟨h1, h2, h3⟩ := h
  rw [M.fr_eq]
  have hn : (rdM p).tab.length = (gb p 3).toNat := rdTab_length ..
  have hub : ∀ c : UInt8, ub (c.toNat : Int) = c := by
    intro c
    unfold ub
    have := UInt8.toNat_lt c
    exact u8_eq (by omega)
  have e4 : hd4 (rdM p).kind (rdM p).from_ (rdM p).good (rdM p).ref (rdM p).tab.length = p.take 4 := by
    rw [hn]
    have e2 : ub (fl (decide ((gb p 2).toNat % 2 = 1)) (decide ((gb p 2).toNat / 2 % 2 = 1))) = gb p 2 := by
      have h4 : (gb p 2).toNat = 0 ∨ (gb p 2).toNat = 1 ∨ (gb p 2).toNat = 2 ∨ (gb p 2).toNat = 3 := by omega
      apply UInt8.toNat_inj.1
      rcases h4 with h4 | h4 | h4 | h4 <;> rw [h4] <;> decide
    show [ub ((gb p 0).toNat : Int), ub ((gb p 1).toNat : Int), ub (fl (decide ((gb p 2).toNat % 2 = 1)) (decide ((gb p 2).toNat / 2 % 2 = 1))), ub ((gb p 3).toNat : Int)] = p.take 4
    rw [hub, hub, hub, e2]
    match p, h1 with
    | a :: b :: c :: d :: p, _ => rfl
  have ex : (rdM p).xs = (List.range (9 + 2 * (gb p 3).toNat)).map fun i => rd8 (((p.drop 4).drop (8 * i)).take 8) := by
    have e0 : ∀ i, rd8 (((p.drop 4).drop (8 * i)).take 8) = numAt p i := fun i => by unfold numAt; rw [List.drop_drop]
    simp only [e0]
    unfold M.xs
    rw [List.range_add, List.map_append, List.map_map]
    have := tin_range (numAt p) (gb p 3).toNat 9
    show _ ++ tin (rdTab p _) = _
    unfold rdTab
    rw [this]
    rfl
  rw [e4, ex, nums_read _ _ (by rw [List.length_drop]; omega), List.take_append_drop]
end Go.Proofs.Ytkbkgpedpaodlaa.W
