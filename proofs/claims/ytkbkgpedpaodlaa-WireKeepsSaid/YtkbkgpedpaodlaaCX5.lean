/- The walks of the reference's Seal and Open; the laws CrcSeals, CrcKeeps. -/
import Derived.Test.YtkbkgpedpaodlaaCX4
import Derived.Test.YtkbkgpedpaodlaaCX2
set_option linter.unusedVariables false
set_option linter.unusedSimpArgs false
namespace Go.Proofs.Ytkbkgpedpaodlaa.CW
open Go.RowKit Go.Proofs.Ytkbkgpedpaodlaa.K Go.Proofs.Ytkbkgpedpaodlaa.CM
attribute [local irreducible] iv crc more reg turns

theorem add_size {a b : List UInt8} : str a ++ str b = str (a ++ b) := by
  cases h : (str a ++ str b)
  rename_i d
  have : (str a ++ str b).data = (str (a ++ b)).data := by simp [str]
  rw [h] at this
  simp at this
  rw [this]

theorem str_take (p t : List UInt8) : (str (p ++ t)).extract 0 p.length = str p := by
  unfold str
  cases h : (ByteArray.extract ⟨(p ++ t).toArray⟩ 0 p.length)
  rename_i d
  have := congrArg ByteArray.data h
  simp at this
  rw [← this]

set_option maxHeartbeats 4000000 in
theorem refseal_any (l : List UInt8) (w0 w : World) (F0 : List Nat) (L G : List Res) (hst : St w0 F0 w L G) (hl : l.length ≤ 140737488355320) :
    Calls Try.prog 27 #[.string (str l)] w fun e w' => e = .returned (.string (str (sealed l))) ∧ St w0 F0 w' L G := by
  have hc0 := iv_range (crc l)
  have hsz : l.length + (le4 (crc l)).length ≤ 9223372036854775807 := by rw [le4_length]; omega
  go_enter Try.func27, Try.ntmps27
  go_wp2_with (first
    | (refine wpList_opK ?_
       first
       | (refine r_lits hst (by rfl) rfl (vs := bvs (le4 (crc l))) (by simp [Act.eval, byte0, byte1, byte2, byte3, idx, bvs, le4, bv]) rfl rfl Try.underlying41 (fun _ => Try.sizeOf5 _) (fun _ => Try.zeroValue5 _) (by decide) ?_; clear hst; intro b3 w1 hst; try simp only [Act.eval, Act.put, List.setIfInBounds_toArray, List.set_cons_zero, List.set_cons_succ, Array.getD_eq_getD_getElem?, List.getElem?_toArray, List.getElem?_cons_zero, List.getElem?_cons_succ, Option.getD_some, Value.cells, List.toList_toArray] at hst ⊢)
       | (refine r_str hst (by rfl) rfl Try.underlying41 Try.underlying5 Try.underlying9 rfl (l := le4 (crc l)) (Rds.ofCells 0 rfl 4 4) rfl ?_))
    | (go_at_call 35; refine use_call (refsum_any (str l) _ (by simp; omega)) rfl ?_; rintro e w' ⟨rfl, rfl⟩; rw [sb_str]))
  go_ret
  refine ⟨?_, hst.drop⟩
  show Ending.returned (.string (str l ++ str (le4 (crc l)))) = _
  rw [add_size]
  rfl

theorem refopen_short (l : List UInt8) (w0 w : World) (F0 : List Nat) (L G : List Res) (hst : St w0 F0 w L G) (hl : l.length < 4) :
    Calls Try.prog 32 #[.string (str l)] w fun e w' => e = .returned (.tuple #[.string (str []), .bool false]) ∧ St w0 F0 w' L G := by
  have hd : decide ((l.length : Int) < 4) = true := by simp; omega
  go_enter Try.func32, Try.ntmps32
  go_wp2
  go_ret2
  exact ⟨rfl, hst⟩

theorem toList_loop (bs : ByteArray) (d : Nat) : ∀ (i : Nat) (acc : List UInt8), bs.size - i = d → ByteArray.toList.loop bs i acc = acc.reverse ++ bs.data.toList.drop i := by
  induction d with
  | zero =>
    intro i acc h
    unfold ByteArray.toList.loop
    have : ¬ i < bs.size := by omega
    simp only [this, if_false]
    rw [List.drop_of_length_le (by simp; omega)]
    simp
  | succ d ih =>
    intro i acc h
    unfold ByteArray.toList.loop
    have hi : i < bs.size := by omega
    simp only [hi, if_true]
    rw [ih (i + 1) _ (by omega)]
    have hl : i < bs.data.toList.length := by simpa using hi
    rw [List.drop_eq_getElem_cons hl]
    have hg : bs.get! i = bs.data.toList[i] := by
      have h1 : i < bs.data.size := hi
      simp only [ByteArray.get!, Array.getElem_toList]
      exact getElem!_pos bs.data i h1
    simp [hg]
theorem str_toList (l : List UInt8) : (str l).toList = l := by
  have h := toList_loop (str l) _ 0 [] rfl
  simpa [ByteArray.toList, str] using h

set_option maxHeartbeats 4000000 in
theorem refopen_yes (p : List UInt8) (w0 w : World) (F0 : List Nat) (L G : List Res) (hst : St w0 F0 w L G) (hl : p.length ≤ 140737488355320) :
    Calls Try.prog 32 #[.string (str (sealed p))] w fun e w' => e = .returned (.tuple #[.string (str p), .bool true]) ∧ St w0 F0 w' L G := by
  have hd : decide ((p.length : Int) + 4 < 4) = false := by simp; omega
  have hx := Lib.hid (str_take p (le4 (crc p)))
  have hsz : (sealed p).length = p.length + 4 := sealed_length p
  go_enter Try.func32, Try.ntmps32
  go_wp2_with (go_at_call 27; refine use_call (refseal_any p _ _ _ _ _ hst hl) (congrArg (fun x => #[Value.string x]) hx.out) ?_; clear hst; rintro e w1 ⟨rfl, hst⟩)
  go_ret2
  refine ⟨?_, hst⟩
  show Ending.returned (.tuple #[.string ((str (sealed p)).extract 0 p.length), .bool true]) = _
  rw [show (str (sealed p)).extract 0 p.length = str p from hx.out]

set_option maxHeartbeats 4000000 in
theorem refopen_no (p t4 : List UInt8) (ht : t4.length = 4) (hne : t4 ≠ le4 (crc p)) (w0 w : World) (F0 : List Nat) (L G : List Res) (hst : St w0 F0 w L G) (hl : p.length ≤ 140737488355320) :
    Calls Try.prog 32 #[.string (str (p ++ t4))] w fun e w' => e = .returned (.tuple #[.string (str []), .bool false]) ∧ St w0 F0 w' L G := by
  have hd : decide ((p.length : Int) + 4 < 4) = false := by simp; omega
  have hx := Lib.hid (str_take p t4)
  have hb : (!((str (sealed p)).toList == (str (p ++ t4)).toList)) = true := by
    rw [str_toList, str_toList]
    simp only [Bool.not_eq_true', beq_eq_false_iff_ne, sealed]
    intro h
    exact hne (List.append_right_inj _ |>.1 h).symm
  go_enter Try.func32, Try.ntmps32
  go_wp2_with (go_at_call 27; refine use_call (refseal_any p _ _ _ _ _ hst hl) (congrArg (fun x => #[Value.string x]) hx.out) ?_; clear hst; rintro e w1 ⟨rfl, hst⟩)
  go_ret2
  exact ⟨rfl, hst⟩
theorem Rds.nil {L G : List Res} {r : Res} (h : r ∈ L ∨ r ∈ G) : Rds L G (.slice none 0 0) 0 (bvs []) := ⟨r, h, fun w _ => Sl.nil w⟩

/-- A list of bytes has a tail of four, or is shorter. -/
theorem tail_of (l : List UInt8) : l.length < 4 ∨ ∃ p s0 s1 s2 s3, l = p ++ [s0, s1, s2, s3] := by
  by_cases h : l.length < 4
  · exact .inl h
  · right
    have h1 : (l.drop (l.length - 4)).length = 4 := by simp; omega
    match h2 : l.drop (l.length - 4), h1 with
    | [s0, s1, s2, s3], _ => exact ⟨l.take (l.length - 4), s0, s1, s2, s3, by rw [← h2, List.take_append_drop]⟩

end Go.Proofs.Ytkbkgpedpaodlaa.CW
