/- Plain laws of lanes: how many wait in all, and what ticks do. -/
import Derived.Test.YtcafmbbimoddjaaLC
set_option linter.unusedVariables false
set_option linter.unusedSimpArgs false
namespace Go.Proofs.Ytcafmbbimoddjaa.LN
open Go.RowKit Go.Proofs.Ytcafmbbimoddjaa.K

def q0 : Qs := List.replicate 48 []
theorem q0_len : q0.length = 48 := by simp [q0]
section
variable {w0 w : World} {F0 : List Nat} {L G : List Res} {b : Nat} {N : Int} {qs : Qs}
theorem New_any (w0 w : World) (F0 : List Nat) (L G : List Res) (hst : St w0 F0 w L G) :
    Calls Try.prog 9 #[] w fun e w' => ∃ b, e = .returned (.pointer (some ⟨b, 0, none⟩)) ∧ St w0 F0 w' (QR b 0 q0 :: L) G :=
  (new_any w0 w F0 L G hst).mono fun e w' ⟨b, h1, h2⟩ => ⟨b, h1, St.shutQ (rows := List.replicate 48 zr) h2 new_wf (by rw [new_items]; rfl)⟩
theorem QR_facts {w : World} (h : (QR b N qs).holds w) : qs.length = 48 ∧ (∀ q ∈ qs, q.length ≤ 64) ∧ ∀ q ∈ qs, ∀ x ∈ q, 0 ≤ x.2 ∧ x.2 ≤ N := by
  obtain ⟨rows, h1, rfl, _⟩ := h
  refine ⟨by rw [List.length_map, h1.len], fun q hq => ?_, fun q hq x hx => ?_⟩
  · obtain ⟨r, hr, rfl⟩ := List.mem_map.1 hq
    rw [Rw.items_length]; exact (h1.wf r hr).c
  · obtain ⟨r, hr, rfl⟩ := List.mem_map.1 hq
    exact item_age (h1.wf r hr) (h1.age r hr) x hx
theorem _root_.Go.Proofs.Ytcafmbbimoddjaa.K.St.qfacts (h : St w0 F0 w (QR b N qs :: L) G) : qs.length = 48 ∧ (∀ q ∈ qs, q.length ≤ 64) ∧ ∀ q ∈ qs, ∀ x ∈ q, 0 ≤ x.2 ∧ x.2 ≤ N := QR_facts (h.res (QR b N qs) (by simp))
theorem _root_.Go.Proofs.Ytcafmbbimoddjaa.K.St.older (h : St w0 F0 w (QR b N qs :: L) G) {M : Int} (hM : N ≤ M) : St w0 F0 w (QR b M qs :: L) G := by
  obtain ⟨rows, h1, h2, h3⟩ := h.openQ
  exact h3.shutQ (h1.le hM) h2
theorem _root_.Go.Proofs.Ytcafmbbimoddjaa.K.St.asQ (h : St w0 F0 w (QR b N qs :: L) G) {qs' : Qs} (e : qs = qs') : St w0 F0 w (QR b N qs' :: L) G := e ▸ h
end
def sumLen (qs : Qs) : Nat → Nat
  | 0 => 0
  | k + 1 => sumLen qs k + lenQ qs (k : Int)
theorem lenQ_nat {qs : Qs} {k : Nat} (hk : k < 48) : lenQ qs (k : Int) = (qs.getD k []).length := by
  unfold lenQ
  rw [if_pos (by unfold inR; omega)]
  simp [qat]
theorem getD_memQ {qs : Qs} {k : Nat} (hk : k < qs.length) : qs.getD k [] ∈ qs := by
  rw [List.getD_eq_getElem?_getD, List.getElem?_eq_getElem hk]; simp
theorem sumLen_le {qs : Qs} (hl : qs.length = 48) (h : ∀ q ∈ qs, q.length ≤ 64) : ∀ k, k ≤ 48 → sumLen qs k ≤ 64 * k
  | 0, _ => by simp [sumLen]
  | k + 1, hk => by
    have ih := sumLen_le hl h k (by omega)
    have := h _ (getD_memQ (k := k) (by omega))
    simp only [sumLen]
    rw [lenQ_nat (by omega)]
    omega
theorem sumLen_take {qs : Qs} (hl : qs.length = 48) : ∀ k, k ≤ 48 → sumLen qs k = tot (qs.take k)
  | 0, _ => by simp [sumLen, tot]
  | k + 1, hk => by
    have e : qs.take (k + 1) = qs.take k ++ [qs.getD k []] := by rw [List.take_succ_eq_append_getElem (by omega), List.getD_eq_getElem?_getD, List.getElem?_eq_getElem (by omega)]; rfl
    rw [e, tot_append]
    simp only [sumLen]
    rw [sumLen_take hl k (by omega), lenQ_nat (by omega)]
    simp [tot]
theorem sumLen_tot {qs : Qs} (hl : qs.length = 48) : sumLen qs 48 = tot qs := by
  rw [sumLen_take hl 48 (by omega), List.take_of_length_le (by omega)]
theorem tot_le {qs : Qs} (hl : qs.length = 48) (h : ∀ q ∈ qs, q.length ≤ 64) : tot qs ≤ 3072 := by
  have := sumLen_le hl h 48 (by omega)
  rwa [sumLen_tot hl] at this
theorem gn_tot {qs : Qs} (hl : qs.length = 48) (most : Int) : gn qs most 48 = (tot qs : Int) - (tot (tickQ qs most) : Int) := by
  unfold gn
  rw [List.take_of_length_le (by omega)]
theorem tot_tick_le (qs : Qs) (most : Int) : tot (tickQ qs most) ≤ tot qs := by
  unfold tot tickQ
  rw [List.map_map]
  induction qs with
  | nil => exact Nat.le_refl _
  | cons q qs ih =>
    have := stay_len most q
    simp only [List.map_cons, List.sum_cons, Function.comp]
    omega
theorem tick_len (qs : Qs) (most : Int) : (tickQ qs most).length = qs.length := by simp [tickQ]
/-- All are of one age, and may stay. -/
theorem tick_stay {qs : Qs} {most i : Int} (h : ∀ q ∈ qs, ∀ x ∈ q, x.2 = i) (hi : i + 1 ≤ most) : tickQ qs most = qs.map (fun q => q.map older) := by
  unfold tickQ
  apply List.map_congr_left
  intro q hq
  unfold stay
  rw [List.filter_eq_self]
  intro x hx
  obtain ⟨y, hy, rfl⟩ := List.mem_map.1 hx
  have := h q hq y hy
  exact decide_eq_true (show y.2 + 1 ≤ most by omega)
theorem tick_gone {qs : Qs} {most i : Int} (h : ∀ q ∈ qs, ∀ x ∈ q, x.2 = i) (hi : most < i + 1) : tickQ qs most = qs.map (fun _ => []) := by
  unfold tickQ
  apply List.map_congr_left
  intro q hq
  unfold stay
  rw [List.filter_eq_nil_iff]
  intro x hx
  obtain ⟨y, hy, rfl⟩ := List.mem_map.1 hx
  have := h q hq y hy
  intro hd
  have hd : y.2 + 1 ≤ most := of_decide_eq_true hd
  omega
theorem tot_older (qs : Qs) : tot (qs.map (fun q => q.map older)) = tot qs := by
  unfold tot
  rw [List.map_map]
  congr 1
  apply List.map_congr_left
  intro q _
  simp
theorem tot_none (qs : Qs) : tot (qs.map (fun _ => ([] : List It))) = 0 := by
  unfold tot
  rw [List.map_map]
  induction qs with
  | nil => rfl
  | cons q qs ih => simpa using ih
theorem older_age {qs : Qs} {i : Int} (h : ∀ q ∈ qs, ∀ x ∈ q, x.2 = i) : ∀ q ∈ qs.map (fun q => q.map older), ∀ x ∈ q, x.2 = i + 1 := by
  intro q hq x hx
  obtain ⟨p, hp, rfl⟩ := List.mem_map.1 hq
  obtain ⟨y, hy, rfl⟩ := List.mem_map.1 hx
  have := h p hp y hy
  simp only [older]
  omega
theorem tot_zero {qs : Qs} (h : tot qs = 0) : ∀ q ∈ qs, q = [] := by
  induction qs with
  | nil => intro q hq; cases hq
  | cons p qs ih =>
    simp only [tot, List.map_cons, List.sum_cons] at h
    intro q hq
    rcases List.mem_cons.1 hq with rfl | hq
    · exact List.eq_nil_of_length_eq_zero (by omega)
    · exact ih (by simp only [tot]; omega) q hq
theorem len_none {qs : Qs} {k : Nat} (hl : qs.length = 48) (h : tot qs = 0) (hk : k < 48) : lenQ qs (k : Int) = 0 := by
  rw [lenQ_nat hk, tot_zero h _ (getD_memQ (by omega))]; rfl

/-! ### Scripts -/
structure Cl where
  kind : Int
  who : Int
  n : Int
  s : ByteArray
@[reducible] def clc (c : Cl) : List Value := [.int .i64 c.kind, .int .i64 c.who, .int .i64 c.n, .string c.s]
def ccs (l : List Cl) : List Value := l.flatMap clc
theorem ccs_length (l : List Cl) : (ccs l).length = l.length * 4 := by
  induction l with
  | nil => rfl
  | cons x l ih => simp [ccs] at ih ⊢; omega
def cl0 : Cl := ⟨0, 0, 0, ⟨#[]⟩⟩
theorem ccs_at : ∀ (l : List Cl) (k : Nat), k < l.length → ((ccs l).drop ((k : Int).toNat * 4)).take 4 = clc (l.getD k cl0)
  | [], k, h => by simp at h
  | x :: l, 0, h => rfl
  | x :: l, k + 1, h => by
    have ih := ccs_at l k (by simpa using h)
    rw [Int.toNat_natCast] at ih ⊢
    rw [show ccs (x :: l) = .int .i64 x.kind :: .int .i64 x.who :: .int .i64 x.n :: .string x.s :: ccs l from rfl, show (k + 1) * 4 = k * 4 + 1 + 1 + 1 + 1 by omega]
    simp only [List.drop_succ_cons, List.getD_cons_succ]
    exact ih
end Go.Proofs.Ytcafmbbimoddjaa.LN
