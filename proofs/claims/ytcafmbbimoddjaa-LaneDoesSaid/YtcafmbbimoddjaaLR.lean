/- The walk of LaneOrders. -/
import Derived.Test.YtcafmbbimoddjaaLP
set_option linter.unusedVariables false
set_option linter.unusedSimpArgs false
namespace Go.Proofs.Ytcafmbbimoddjaa.LN
open Go.RowKit Go.Proofs.Ytcafmbbimoddjaa.K


def bss (l : List ByteArray) : List Value := l.map Value.string
def es : ByteArray := ⟨#[]⟩
theorem bss_get {l : List ByteArray} {k : Nat} (h : k < l.length) : (bss l)[(k : Int).toNat * 1]? = some (.string (l.getD k es)) := by simp [bss, h]
theorem bss_length (l : List ByteArray) : (bss l).length = l.length := by simp [bss]
section
open Go.ChangeShapes Go.WideShapes Go.Deep
variable {H : Type} {enc : TypeId × Value → H} {w : World} {base : Nat} {held : Bool}
theorem strs_of {r : Reach} {b0 : Nat} {spare : Nat → Bool} (hsp : ∀ b, spare b = true) {v : Value} {d : DataW H} {p : List MemPlace} (hv : Value.okWide Try.prog w r b0 46 v) (h : DataW.Trod enc Try.prog w base spare held 46 v d p) :
    ∃ l : List ByteArray, Sl w v l.length (bss l) ∧ l.length ≤ 9223372036854775807 := by
  obtain ⟨A, len, cap, rfl⟩ := okWide_slice Try.underlying46 hv
  obtain ⟨fuel, h⟩ := h
  rcases open_slice Try.underlying46 h with ⟨hc, _⟩ | ⟨a, len', cap', m, n, D, Pl, hc, _, hl, hm, hmm, _, hi⟩
  · simp [Value.cells] at hc
    obtain ⟨rfl, rfl, rfl⟩ := hc
    exact ⟨[], Sl.nil w, by simp⟩
  · simp [Value.cells] at hc
    obtain ⟨rfl, rfl, rfl⟩ := hc
    rw [hsp, if_pos rfl] at hmm
    subst hmm
    have HH : ∀ i, i < len → ∃ s : ByteArray, w.cell? (a.add i) = some (.string s) := by
      intro i hlt
      obtain ⟨cs, hcs, ht⟩ := hi i (by omega)
      rw [kStr, Nat.mul_one] at hcs
      obtain ⟨_, hcl, hat⟩ := World.cells?_some hcs
      match cs, hcl with
      | [c0], _ =>
        obtain ⟨s, hs, _⟩ := DataW.trod_string Try.underlying9 ht
        simp at hs
        have := hat 0 (by omega)
        rw [K.add_add, Nat.add_zero] at this
        exact ⟨s, by rw [this, hs]; rfl⟩
    let f : Nat → ByteArray := fun i => if h : i < len then Classical.choose (HH i h) else es
    have hf : ∀ i, i < len → w.cell? (a.add i) = some (.string (f i)) := by
      intro i hlt
      have := Classical.choose_spec (HH i hlt)
      simp only [f, hlt, dif_pos]
      exact this
    have hlen : ((List.range len).map f).length = len := by simp
    refine ⟨(List.range len).map f, ?_, by rw [hlen]; unfold maxLen at hm; omega⟩
    rw [hlen]
    refine ⟨_, _, rfl, hl, fun _ => ⟨a, rfl, fun j hj => ?_⟩⟩
    rw [bss_length, hlen] at hj
    rw [hf j hj]
    simp [bss, hj]
end

/-! ### The last 64 -/
def tag0 (l : List ByteArray) : List It := l.map fun s => (s, 0)
def lastQ (l : List ByteArray) (i : Nat) : List It := tag0 ((l.take i).drop (i - 64))
theorem lastQ_len {l : List ByteArray} {i : Nat} (h : i ≤ l.length) : (lastQ l i).length = min i 64 := by
  simp [lastQ, tag0]; omega
theorem lastQ_put {l : List ByteArray} {i : Nat} (h : i < l.length) : putQ (lastQ l i) (l.getD i es) = lastQ l (i + 1) := by
  have e : l.take (i + 1) = l.take i ++ [l.getD i es] := by rw [List.take_succ_eq_append_getElem h, List.getD_eq_getElem?_getD, List.getElem?_eq_getElem h]; rfl
  have hl := lastQ_len (l := l) (i := i) (by omega)
  have ht : (l.take i).length = i := by rw [List.length_take]; omega
  unfold putQ
  rw [hl]
  unfold lastQ
  rw [e]
  by_cases h64 : i < 64
  · rw [if_neg (by omega), show i - 64 = 0 by omega, show i + 1 - 64 = 0 by omega]
    simp [tag0]
  · rw [if_pos (by omega), show i + 1 - 64 = (i - 64) + 1 by omega, List.drop_append_of_le_length (by omega)]
    simp [tag0, List.map_drop]
theorem lastQ_all (l : List ByteArray) : lastQ l l.length = tag0 (l.drop (l.length - 64)) := by simp [lastQ]
theorem tag0_drop {l : List ByteArray} {i : Nat} (h : i < l.length) : tag0 (l.drop i) = (l.getD i es, 0) :: tag0 (l.drop (i + 1)) := by
  unfold tag0
  rw [List.drop_eq_getElem_cons h, List.map_cons, List.getD_eq_getElem?_getD, List.getElem?_eq_getElem h]
  rfl
theorem Y.maxI {P : Program} {S : World → Prop} {ρ : Env} {ty t : TypeId} {x y : Operand} {m n : Int} (ht : P.underlying t = some (.int .i64)) (hx : ev ρ x = .int .i64 m) (hy : ev ρ y = .int .i64 n) : K.Y P S ρ (.call { callee := .builtin .max, args := #[x, y], argTypes := #[t, t] }) ty (.int .i64 (if m < n then n else m)) := fun w _ o ho _ => by
  have h : (Builtin.max_ #[t, t] o.type #[.int .i64 m, .int .i64 n]).run P w = .ok (.int .i64 (if m < n then n else m)) w := by
    simp [Builtin.max_, Builtin.max2]
  simp [execOp, ho, resolve, invoke, builtin, hx, hy, h]
theorem qat_q0 (who : Int) {l : List ByteArray} : qat q0 who = lastQ l 0 := by
  unfold qat q0
  rw [List.getD_eq_getElem?_getD, List.getElem?_replicate]
  split <;> rfl
theorem max_sub {n : Nat} : (if (n : Int) - 64 < 0 then (0 : Int) else (n : Int) - 64) = ((n - 64 : Nat) : Int) := by split <;> omega
set_option maxHeartbeats 4000000 in
theorem LaneOrders_walk (v : Value) (l : List ByteArray) (who other : Int) (W1 : World) (hs : Sl W1 v l.length (bss l)) (hl : l.length ≤ 9223372036854775807) :
    Calls Try.prog 5 #[.int .i64 who, v, .int .i64 other] W1 fun e w' => e = .returned (.bool true) ∧ Below W1.heap.size W1 w' := by
  have hst := (St.start W1).arg hs
  obtain ⟨A, cap, rfl, hcap, -⟩ := hs
  have hr : Rds [] [slR (.slice A l.length cap) l.length (bss l)] (.slice A l.length cap) l.length (bss l) := Rds.slG 0 rfl
  generalize hG : [slR (.slice A l.length cap) l.length (bss l)] = G at hst hr
  refine W.func Try.func5 rfl Try.ntmps5 rfl ?_
  refine W.seq rfl ?_
  refine W.region rfl ?_
  refine Ops.y rfl rfl rfl hst.ctx (Y.assignB rfl) ?_
  refine Ops.done rfl ?_
  refine W.seq rfl ?_
  refine W.seq rfl ?_
  refine W.region rfl ?_
  refine Ops.x rfl rfl rfl (X.call cf7 rfl ?_)
  refine use_call (alive_any _ _ _ _ _ hst) rfl ?_; clear hst; rintro e w1 ⟨rfl, hst⟩; refine ⟨_, rfl, ?_⟩
  refine Ops.y rfl rfl rfl hst.ctx (Y.not rfl) ?_
  refine Ops.done rfl ?_
  refine W.condF rfl rfl ?_
  refine W.skip rfl ?_
  refine W.seq rfl ?_
  refine W.region rfl ?_
  refine Ops.y rfl rfl rfl hst.ctx (Y.assignI rfl) ?_
  refine Ops.done rfl ?_
  refine W.seq rfl ?_
  refine W.seq rfl ?_
  refine W.region rfl ?_
  refine Ops.y rfl rfl rfl hst.ctx (Y.moveS rfl) ?_
  refine Ops.y rfl rfl rfl hst.ctx (Y.lenS Try.underlying46 rfl) ?_
  refine Ops.y rfl rfl rfl hst.ctx (Y.moveI rfl) ?_
  refine Ops.done rfl ?_
  refine W.block rfl ?_
  refine W.loop (γ := Nat × Int) [(0, .int _ _), (1, .slice _ _ _), (2, .int _ _), (21, .slice _ _ _), (22, .int _ _)] (fun x => [(7, .int .i64 x.2), (23, .int .i64 (x.1 : Int))]) (fun x w => x.1 ≤ l.length ∧ (∀ j, j < x.1 → (l.getD j es).size ≤ 4096) ∧ St W1 [] w [] G) (fun x => l.length - x.1) ((0, 0)) rfl ⟨rfl, rfl, rfl, rfl, rfl, trivial⟩ ?_ ?_ ?_
  · exact ⟨rfl, rfl, trivial⟩
  · exact ⟨by omega, fun j hj => by omega, hst⟩
  · clear hst; rintro ⟨k, n⟩ jA w3 ⟨hk, hall, hst⟩
    dsimp only at hk hall hst ⊢
    refine W.seq rfl ?_
    refine W.region rfl ?_
    refine Ops.yb rfl rfl rfl hst.ctx (Y.lss rfl rfl) (fun b24 hb24 => ?_)
    refine Ops.done rfl ?_
    refine W.seq rfl ?_
    cases b24
    · replace hb24 := of_decide_eq_false hb24.symm
      refine W.condF rfl rfl ?_
      refine W.exit rfl ?_
      refine W.seq rfl ?_
      refine W.seq rfl ?_
      refine W.region rfl ?_
      refine Ops.y rfl rfl rfl hst.ctx (Y.moveS rfl) ?_
      refine Ops.y rfl rfl rfl hst.ctx (Y.lenS Try.underlying46 rfl) ?_
      refine Ops.yb rfl rfl rfl hst.ctx (Y.gtr rfl rfl) (fun b41 hb41 => ?_)
      refine Ops.y rfl rfl rfl hst.ctx (Y.moveB rfl) ?_
      cases b41
      · replace hb41 := of_decide_eq_false hb41.symm
        refine Ops.y rfl rfl rfl hst.ctx (Y.moveI rfl) ?_
        refine Ops.yb rfl rfl rfl hst.ctx (Y.lss rfl rfl) (fun b44 hb44 => ?_)
        refine Ops.y rfl rfl rfl hst.ctx (Y.pick (.bool _) rfl rfl) ?_
        refine Ops.y rfl rfl rfl hst.ctx (Y.moveB rfl) ?_
        cases b44
        · replace hb44 := of_decide_eq_false hb44.symm
          refine Ops.y rfl rfl rfl hst.ctx (Y.moveI rfl) ?_
          refine Ops.yb rfl rfl rfl hst.ctx (Y.gtr rfl rfl) (fun b48 hb48 => ?_)
          refine Ops.y rfl rfl rfl hst.ctx (Y.pick (.bool _) rfl rfl) ?_
          refine Ops.y rfl rfl rfl hst.ctx (Y.moveB rfl) ?_
          cases b48
          · replace hb48 := of_decide_eq_false hb48.symm
            refine Ops.y rfl rfl rfl hst.ctx (Y.moveI rfl) ?_
            refine Ops.y rfl rfl rfl hst.ctx (Y.moveI rfl) ?_
            refine Ops.yb rfl rfl rfl hst.ctx (Y.eql rfl rfl) (fun b53 hb53 => ?_)
            refine Ops.y rfl rfl rfl hst.ctx (Y.pick (.bool _) rfl rfl) ?_
            refine Ops.done rfl ?_
            cases b53
            · replace hb53 := of_decide_eq_false hb53.symm
              refine W.condF rfl rfl ?_
              refine W.skip rfl ?_
              refine W.seq rfl ?_
              have hin : inR who := by unfold inR; omega
              have hsz : ∀ j, j < l.length → (l.getD j es).size ≤ 4096 := fun j hj => hall j (by omega)
              have hne : other ≠ who := hb53
              refine W.region rfl ?_
              refine Ops.x rfl rfl rfl (X.call cf9 rfl ?_)
              refine use_call (New_any _ _ _ _ _ hst) rfl ?_; clear hst; rintro e w1 ⟨b, rfl, hst⟩; refine ⟨_, rfl, ?_⟩
              refine Ops.y rfl rfl rfl hst.ctx (Y.assignP rfl) ?_
              refine Ops.done rfl ?_
              refine W.seq rfl ?_
              refine W.seq rfl ?_
              refine W.region rfl ?_
              refine Ops.y rfl rfl rfl hst.ctx (Y.moveS rfl) ?_
              refine Ops.y rfl rfl rfl hst.ctx (Y.lenS Try.underlying46 rfl) ?_
              refine Ops.y rfl rfl rfl hst.ctx (Y.moveI rfl) ?_
              refine Ops.done rfl ?_
              refine W.block rfl ?_
              refine W.loop (γ := Nat × Qs) [(0, .int _ _), (1, .slice _ _ _), (2, .int _ _), (10, .pointer _), (56, .slice _ _ _), (57, .int _ _)] (fun x => [(58, .int .i64 (x.1 : Int))]) (fun x w => x.1 ≤ l.length ∧ qat x.2 who = lastQ l x.1 ∧ St W1 [] w (QR b 0 x.2 :: []) G) (fun x => l.length - x.1) ((0, q0)) rfl ⟨rfl, rfl, rfl, rfl, rfl, rfl, trivial⟩ ?_ ?_ ?_
              · exact ⟨rfl, trivial⟩
              · exact ⟨by omega, qat_q0 who, hst⟩
              · clear hst; rintro ⟨k, qs⟩ jB w4 ⟨hk, hq, hst⟩
                dsimp only at hk hq hst ⊢
                have hql := hst.qfacts.1
                refine W.seq rfl ?_
                refine W.region rfl ?_
                refine Ops.yb rfl rfl rfl hst.ctx (Y.lss rfl rfl) (fun b59 hb59 => ?_)
                refine Ops.done rfl ?_
                refine W.seq rfl ?_
                cases b59
                · replace hb59 := of_decide_eq_false hb59.symm
                  refine W.condF rfl rfl ?_
                  refine W.exit rfl ?_
                  refine W.seq rfl ?_
                  have hkl : k = l.length := by omega
                  subst hkl
                  refine W.region rfl ?_
                  refine Ops.y rfl rfl rfl hst.ctx (Y.moveP rfl) ?_
                  refine Ops.y rfl rfl rfl hst.ctx (Y.moveI rfl) ?_
                  refine Ops.x rfl rfl rfl (X.call cf17 rfl ?_)
                  refine use_call (Clear_any b _ qs other _ _ _ _ _ hst (by decide)) rfl ?_; clear hst; rintro e w2 ⟨rfl, hst⟩; refine ⟨_, rfl, ?_⟩
                  refine Ops.done rfl ?_
                  refine W.seq rfl ?_
                  refine W.seq rfl ?_
                  refine W.region rfl ?_
                  refine Ops.y rfl rfl rfl hst.ctx (Y.moveS rfl) ?_
                  refine Ops.y rfl rfl rfl hst.ctx (Y.lenS Try.underlying46 rfl) ?_
                  refine Ops.y rfl rfl rfl hst.ctx (Y.subI rfl rfl (by omega)) ?_
                  refine Ops.y rfl rfl rfl hst.ctx ((Y.maxI Try.underlying3 rfl rfl).cast (congrArg (Value.int .i64) max_sub)) ?_
                  refine Ops.y rfl rfl rfl hst.ctx (Y.assignI rfl) ?_
                  refine Ops.done rfl ?_
                  refine W.block rfl ?_
                  refine W.loop (γ := Nat × Qs) [(0, .int _ _), (1, .slice _ _ _), (10, .pointer _)] (fun x => [(14, .int .i64 (x.1 : Int))]) (fun x w => x.1 ≤ l.length ∧ qat x.2 who = tag0 (l.drop x.1) ∧ St W1 [] w (QR b 0 x.2 :: []) G) (fun x => l.length - x.1) ((l.length - 64, clearQ qs other)) rfl ⟨rfl, rfl, rfl, trivial⟩ ?_ ?_ ?_
                  · exact ⟨rfl, trivial⟩
                  · exact ⟨by dsimp only; omega, by dsimp only; rw [qat_clear_ne hin hne, hq, lastQ_all], hst⟩
                  · clear hst; rintro ⟨k, qs⟩ jC w5 ⟨hk, hq, hst⟩
                    dsimp only at hk hq hst ⊢
                    have hql := hst.qfacts.1
                    refine W.seq rfl ?_
                    refine W.seq rfl ?_
                    skip
                    refine W.region rfl ?_
                    refine Ops.y rfl rfl rfl hst.ctx (Y.moveI rfl) ?_
                    refine Ops.y rfl rfl rfl hst.ctx (Y.moveS rfl) ?_
                    refine Ops.y rfl rfl rfl hst.ctx (Y.lenS Try.underlying46 rfl) ?_
                    refine Ops.yb rfl rfl rfl hst.ctx (Y.lss rfl rfl) (fun b86 hb86 => ?_)
                    refine Ops.done rfl ?_
                    cases b86
                    · replace hb86 := of_decide_eq_false hb86.symm
                      refine W.condF rfl rfl ?_
                      refine W.exit rfl ?_
                      refine W.seq rfl ?_
                      refine W.region rfl ?_
                      refine Ops.y rfl rfl rfl hst.ctx (Y.moveP rfl) ?_
                      refine Ops.y rfl rfl rfl hst.ctx (Y.moveI rfl) ?_
                      refine Ops.x rfl rfl rfl (X.call cf14 rfl ?_)
                      have hnil : qat qs who = [] := by rw [hq, List.drop_of_length_le (by omega)]; rfl
                      have hlen0 : ((lenQ (popQ qs who) who : Nat) : Int) = 0 := by unfold lenQ popQ; rw [if_pos hin, if_pos hin, hnil, List.tail_nil, qat_set_eq hin hql]; rfl
                      refine use_call (Pop_any b _ qs who _ _ _ _ _ hst (by decide)) rfl ?_; clear hst; rintro e w2 ⟨b114, rfl, hb114, hst⟩; refine ⟨_, rfl, ?_⟩
                      refine Ops.y rfl rfl rfl hst.ctx (Y.moveU rfl) ?_
                      refine Ops.y rfl rfl rfl hst.ctx (Y.extract rfl rfl) ?_
                      refine Ops.y rfl rfl rfl hst.ctx (Y.extract rfl rfl) ?_
                      refine Ops.x rfl rfl rfl (X.allocA hst Try.zeroValue38 ?_)
                      clear hst; intro p17 w17 hst
                      first
                      | refine Ops.x rfl rfl rfl (X.storeS hst 0 Try.sizeOf38 rfl rfl rfl rfl rfl (Nat.le_of_ble_eq_true rfl) rfl rfl ?_)
                      | refine Ops.x rfl rfl rfl (X.storeS hst 1 Try.sizeOf38 rfl rfl rfl rfl rfl (Nat.le_of_ble_eq_true rfl) rfl rfl ?_)
                      clear hst; intro w31_7 hst
                      try simp only [List.set_cons_zero, List.set_cons_succ, Nat.zero_add, Nat.reduceAdd, splice, List.take, List.drop, List.append_eq, List.nil_append, List.cons_append, List.length_cons, List.length_nil] at hst
                      refine Ops.y rfl rfl rfl hst.ctx (Y.assignB rfl) ?_
                      refine Ops.done rfl ?_
                      refine W.seq rfl ?_
                      refine W.region rfl ?_
                      refine Ops.y rfl rfl rfl hst.ctx (Y.moveB rfl) ?_
                      cases b114
                      · replace hb114 := of_decide_eq_false hb114.symm
                        refine Ops.y rfl rfl rfl hst.ctx (Y.not rfl) ?_
                        refine Ops.y rfl rfl rfl hst.ctx (Y.moveB rfl) ?_
                        refine Ops.y rfl rfl rfl hst.ctx (Y.moveP rfl) ?_
                        refine Ops.y rfl rfl rfl hst.ctx (Y.moveI rfl) ?_
                        refine Ops.x rfl rfl rfl (X.call cf11 rfl ?_)
                        refine use_call (Len_any b _ _ who _ _ _ _ _ hst.swap (by decide)) rfl ?_; clear hst; rintro e w4 ⟨rfl, hst⟩; refine ⟨_, rfl, ?_⟩; replace hst := hst.swap
                        refine Ops.yb rfl rfl rfl hst.ctx (Y.eql rfl rfl) (fun b123 hb123 => ?_)
                        refine Ops.y rfl rfl rfl hst.ctx (Y.pick (.bool _) rfl rfl) ?_
                        refine Ops.y rfl rfl rfl hst.ctx (Y.assignB rfl) ?_
                        refine Ops.done rfl ?_
                        refine W.ret rfl ?_
                        cases b123
                        · replace hb123 := of_decide_eq_false hb123.symm
                          exact absurd hlen0 hb123
                        · replace hb123 := of_decide_eq_true hb123.symm
                          refine ⟨_, Rslt.one Try.results5 rfl, ?_⟩
                          exact ⟨rfl, by first | exact hst.below | exact hst.drop.below⟩
                      · replace hb114 := of_decide_eq_true hb114.symm
                        exact absurd hnil hb114.2
                    · replace hb86 := of_decide_eq_true hb86.symm
                      refine W.condT rfl rfl ?_
                      refine W.skip rfl ?_
                      refine W.seq rfl ?_
                      refine W.block rfl ?_
                      refine W.seq rfl ?_
                      refine W.region rfl ?_
                      refine Ops.y rfl rfl rfl hst.ctx (Y.moveP rfl) ?_
                      refine Ops.y rfl rfl rfl hst.ctx (Y.moveI rfl) ?_
                      refine Ops.x rfl rfl rfl (X.call cf14 rfl ?_)
                      have hk1 : k < l.length := by omega
                      have hpp : (inR who ∧ qat qs who ≠ []) ∧ popV qs who = (l.getD k es, 0) ∧ qat (popQ qs who) who = tag0 (l.drop (k + 1)) := by
                        rw [tag0_drop hk1] at hq
                        refine ⟨⟨hin, by rw [hq]; exact List.cons_ne_nil _ _⟩, by unfold popV; rw [if_pos hin, hq]; rfl, by unfold popQ; rw [if_pos hin, qat_set_eq hin hql, hq]; rfl⟩
                      refine use_call (Pop_any b _ qs who _ _ _ _ _ hst (by decide)) rfl ?_; clear hst; rintro e w2 ⟨b92, rfl, hb92, hst⟩; refine ⟨_, rfl, ?_⟩
                      refine Ops.y rfl rfl rfl hst.ctx (Y.moveU rfl) ?_
                      refine Ops.y rfl rfl rfl hst.ctx (Y.extract rfl rfl) ?_
                      refine Ops.y rfl rfl rfl hst.ctx (Y.extract rfl rfl) ?_
                      refine Ops.x rfl rfl rfl (X.allocA hst Try.zeroValue38 ?_)
                      clear hst; intro p15 w15 hst
                      first
                      | refine Ops.x rfl rfl rfl (X.storeS hst 0 Try.sizeOf38 rfl rfl rfl rfl rfl (Nat.le_of_ble_eq_true rfl) rfl rfl ?_)
                      | refine Ops.x rfl rfl rfl (X.storeS hst 1 Try.sizeOf38 rfl rfl rfl rfl rfl (Nat.le_of_ble_eq_true rfl) rfl rfl ?_)
                      clear hst; intro w28_7 hst
                      try simp only [List.set_cons_zero, List.set_cons_succ, Nat.zero_add, Nat.reduceAdd, splice, List.take, List.drop, List.append_eq, List.nil_append, List.cons_append, List.length_cons, List.length_nil] at hst
                      refine Ops.y rfl rfl rfl hst.ctx (Y.assignB rfl) ?_
                      refine Ops.done rfl ?_
                      refine W.seq rfl ?_
                      refine W.drawn rfl (by kernel_rfl) (Ctx _ _ (_) (_)) [] [(0, 0), (1, 0), (2, 0), (3, 0), (4, 0), (5, 0), (6, 0), (7, 0), (8, 0), (9, 0), (10, 0), (11, 0), (12, 0), (13, 0), (14, 0), (15, 0)] rfl (by kernel_rfl) hst.drew.ctx ?_
                      replace hst := hst.drew
                      generalize World.drew _ = wd at hst ⊢
                      refine Drw.y rfl rfl rfl hst.ctx (Y.moveB rfl) ?_
                      cases b92
                      · replace hb92 := of_decide_eq_false hb92.symm
                        exact absurd hpp.1 hb92
                      · replace hb92 := of_decide_eq_true hb92.symm
                        refine Drw.y rfl rfl rfl hst.ctx (Y.not rfl) ?_
                        refine Drw.y rfl rfl rfl hst.ctx (Y.moveB rfl) ?_
                        first
                        | refine Drw.y rfl rfl rfl hst.ctx (Y.fieldAddr fa38_0 rfl) ?_
                        | refine Drw.y rfl rfl rfl hst.ctx (Y.fieldAddrP fa38_0 rfl) ?_
                        first
                        | refine Drw.y rfl rfl rfl hst.ctx (Y.load 0 Try.isAgg9 rfl rfl rfl) ?_
                        | refine Drw.y rfl rfl rfl hst.ctx (Y.load 1 Try.isAgg9 rfl rfl rfl) ?_
                        | refine Drw.y rfl rfl rfl hst.ctx (Y.loadSl Try.isAgg9 rfl (hr.mono (fun r h => nomatch h) (fun r h => h)) (bss_get hk1)) ?_
                        refine Drw.y rfl rfl rfl hst.ctx (Y.moveS rfl) ?_
                        refine Drw.y rfl rfl rfl hst.ctx (Y.moveI rfl) ?_
                        have hk1 : k < l.length := by omega
                        refine Drw.y rfl rfl rfl hst.ctx (Y.indexAddr Try.underlying46 Try.sizeOf9 rfl rfl (((hr.mono (fun r h => nomatch h) (fun r h => h)).sl hst).ne (by rw [bss_length]; omega)) (by omega)) ?_
                        first
                        | refine Drw.y rfl rfl rfl hst.ctx (Y.load 0 Try.isAgg9 rfl rfl rfl) ?_
                        | refine Drw.y rfl rfl rfl hst.ctx (Y.load 1 Try.isAgg9 rfl rfl rfl) ?_
                        | refine Drw.y rfl rfl rfl hst.ctx (Y.loadSl Try.isAgg9 rfl (hr.mono (fun r h => nomatch h) (fun r h => h)) (bss_get hk1)) ?_
                        refine Drw.yb rfl rfl rfl hst.ctx (Y.neT rfl rfl) (fun b104 hb104 => ?_)
                        refine Drw.y rfl rfl rfl hst.ctx (Y.pick (.bool _) rfl rfl) ?_
                        refine Drw.y rfl rfl rfl hst.ctx (Y.moveB rfl) ?_
                        cases b104
                        · replace hb104 := of_decide_eq_false hb104.symm
                          first
                          | refine Drw.y rfl rfl rfl hst.ctx (Y.fieldAddr fa38_1 rfl) ?_
                          | refine Drw.y rfl rfl rfl hst.ctx (Y.fieldAddrP fa38_1 rfl) ?_
                          first
                          | refine Drw.y rfl rfl rfl hst.ctx (Y.load 0 Try.isAgg3 rfl rfl rfl) ?_
                          | refine Drw.y rfl rfl rfl hst.ctx (Y.load 1 Try.isAgg3 rfl rfl rfl) ?_
                          | refine Drw.y rfl rfl rfl hst.ctx (Y.loadSl Try.isAgg9 rfl (hr.mono (fun r h => nomatch h) (fun r h => h)) (bss_get hk1)) ?_
                          refine Drw.yb rfl rfl rfl hst.ctx (Y.neq rfl rfl) (fun b109 hb109 => ?_)
                          refine Drw.y rfl rfl rfl hst.ctx (Y.pick (.bool _) rfl rfl) ?_
                          refine Drw.done ?_
                          cases b109
                          · replace hb109 := of_decide_eq_false hb109.symm
                            refine W.condF rfl rfl ?_
                            refine W.skip rfl ?_
                            refine W.region rfl ?_
                            refine Ops.y rfl rfl rfl hst.ctx (Y.moveI rfl) ?_
                            refine Ops.y rfl rfl rfl hst.ctx (Y.addI rfl rfl (by omega)) ?_
                            refine Ops.y rfl rfl rfl hst.ctx (Y.assignI rfl) ?_
                            refine Ops.done rfl ?_
                            have hcc := hpp.2.2
                            exact ⟨(k + 1, popQ qs who), ⟨rfl, trivial⟩, ⟨rfl, rfl, rfl, trivial⟩, ⟨by dsimp only; omega, hcc, hst.drop⟩, by dsimp only; omega⟩
                          · replace hb109 := of_decide_eq_true hb109.symm
                            exact absurd (congrArg Prod.snd hpp.2.1) hb109
                        · replace hb104 := of_decide_eq_true hb104.symm
                          exact absurd (congrArg Prod.fst hpp.2.1) hb104
                · replace hb59 := of_decide_eq_true hb59.symm
                  refine W.condT rfl rfl ?_
                  refine W.skip rfl ?_
                  refine W.seq rfl ?_
                  refine W.block rfl ?_
                  refine W.seq rfl ?_
                  refine W.region rfl ?_
                  refine Ops.y rfl rfl rfl hst.ctx (Y.moveI rfl) ?_
                  have hk1 : k < l.length := by omega
                  refine Ops.y rfl rfl rfl hst.ctx (Y.indexAddr Try.underlying46 Try.sizeOf9 rfl rfl (((hr.mono (fun r h => nomatch h) (fun r h => h)).sl hst).ne (by rw [bss_length]; omega)) (by omega)) ?_
                  first
                  | refine Ops.y rfl rfl rfl hst.ctx (Y.load 0 Try.isAgg9 rfl rfl rfl) ?_
                  | refine Ops.y rfl rfl rfl hst.ctx (Y.loadSl Try.isAgg9 rfl (hr.mono (fun r h => nomatch h) (fun r h => h)) (bss_get hk1)) ?_
                  refine Ops.y rfl rfl rfl hst.ctx (Y.assignI rfl) ?_
                  refine Ops.y rfl rfl rfl hst.ctx (Y.assignT rfl) ?_
                  refine Ops.done rfl ?_
                  refine W.seq rfl ?_
                  refine W.region rfl ?_
                  refine Ops.y rfl rfl rfl hst.ctx (Y.assignI rfl) ?_
                  refine Ops.done rfl ?_
                  refine W.seq rfl ?_
                  refine W.seq rfl ?_
                  refine W.region rfl ?_
                  refine Ops.y rfl rfl rfl hst.ctx (Y.moveI rfl) ?_
                  refine Ops.yb rfl rfl rfl hst.ctx (Y.geq rfl rfl) (fun b64 hb64 => ?_)
                  refine Ops.done rfl ?_
                  cases b64
                  · replace hb64 := of_decide_eq_false hb64.symm
                    refine W.condF rfl rfl ?_
                    refine W.skip rfl ?_
                    refine W.seq rfl ?_
                    have hq1 := (qat_push_ne (qs := qs) (i := other) (l.getD k es) hin hne).trans hq
                    have hll := lastQ_len (l := l) (i := k) (by omega)
                    have hE : pushE (pushQ qs other (l.getD k es)) who (l.getD k es) = if (lastQ l k).length = 64 then 8 else 0 := by unfold pushE; rw [if_pos hin, if_pos (hsz k hk1), hq1]
                    refine W.region rfl ?_
                    refine Ops.y rfl rfl rfl hst.ctx (Y.moveP rfl) ?_
                    refine Ops.y rfl rfl rfl hst.ctx (Y.moveI rfl) ?_
                    refine Ops.y rfl rfl rfl hst.ctx (Y.moveT rfl) ?_
                    refine Ops.x rfl rfl rfl (X.call cf10 rfl ?_)
                    refine use_call (Push_any b _ qs other _ _ _ _ _ _ hst (by decide)) rfl ?_; clear hst; rintro e w2 ⟨rfl, hst⟩; refine ⟨_, rfl, ?_⟩
                    refine Ops.done rfl ?_
                    refine W.seq rfl ?_
                    refine W.region rfl ?_
                    refine Ops.y rfl rfl rfl hst.ctx (Y.moveP rfl) ?_
                    refine Ops.y rfl rfl rfl hst.ctx (Y.moveI rfl) ?_
                    refine Ops.y rfl rfl rfl hst.ctx (Y.moveT rfl) ?_
                    refine Ops.x rfl rfl rfl (X.call cf10 rfl ?_)
                    refine use_call (Push_any b _ (pushQ qs other (l.getD k es)) who _ _ _ _ _ _ hst (by decide)) rfl ?_; clear hst; rintro e w2 ⟨rfl, hst⟩; refine ⟨_, rfl, ?_⟩
                    refine Ops.y rfl rfl rfl hst.ctx (Y.moveI rfl) ?_
                    refine Ops.yb rfl rfl rfl hst.ctx (Y.neq rfl rfl) (fun b74 hb74 => ?_)
                    refine Ops.done rfl ?_
                    cases b74
                    · replace hb74 := of_decide_eq_false hb74.symm
                      refine W.condF rfl rfl ?_
                      refine W.skip rfl ?_
                      refine W.region rfl ?_
                      refine Ops.y rfl rfl rfl hst.ctx (Y.addI rfl rfl (by omega)) ?_
                      refine Ops.y rfl rfl rfl hst.ctx (Y.moveI rfl) ?_
                      refine Ops.done rfl ?_
                      exact ⟨(k + 1, pushQ (pushQ qs other (l.getD k es)) who (l.getD k es)), ⟨rfl, trivial⟩, ⟨rfl, rfl, rfl, rfl, rfl, rfl, trivial⟩, ⟨by dsimp only; omega, by dsimp only; have hq48 := hst.qfacts.1; rw [show pushQ (pushQ qs other (l.getD k es)) who (l.getD k es) = (pushQ qs other (l.getD k es)).set who.toNat (putQ (qat (pushQ qs other (l.getD k es)) who) (l.getD k es)) from if_pos ⟨hin, hsz k hk1⟩] at hq48 ⊢; rw [List.length_set] at hq48; rw [qat_set_eq hin hq48, hq1, lastQ_put hk1], hst⟩, by dsimp only; omega⟩
                    · replace hb74 := of_decide_eq_true hb74.symm
                      first | exact absurd (hE.trans (if_pos (show (lastQ l k).length = 64 by omega))) hb74 | exact absurd (hE.trans (if_neg (show ¬ (lastQ l k).length = 64 by omega))) hb74
                  · replace hb64 := of_decide_eq_true hb64.symm
                    refine W.condT rfl rfl ?_
                    refine W.region rfl ?_
                    refine Ops.y rfl rfl rfl hst.ctx (Y.assignI rfl) ?_
                    refine Ops.done rfl ?_
                    refine W.seq rfl ?_
                    have hq1 := (qat_push_ne (qs := qs) (i := other) (l.getD k es) hin hne).trans hq
                    have hll := lastQ_len (l := l) (i := k) (by omega)
                    have hE : pushE (pushQ qs other (l.getD k es)) who (l.getD k es) = if (lastQ l k).length = 64 then 8 else 0 := by unfold pushE; rw [if_pos hin, if_pos (hsz k hk1), hq1]
                    refine W.region rfl ?_
                    refine Ops.y rfl rfl rfl hst.ctx (Y.moveP rfl) ?_
                    refine Ops.y rfl rfl rfl hst.ctx (Y.moveI rfl) ?_
                    refine Ops.y rfl rfl rfl hst.ctx (Y.moveT rfl) ?_
                    refine Ops.x rfl rfl rfl (X.call cf10 rfl ?_)
                    refine use_call (Push_any b _ qs other _ _ _ _ _ _ hst (by decide)) rfl ?_; clear hst; rintro e w2 ⟨rfl, hst⟩; refine ⟨_, rfl, ?_⟩
                    refine Ops.done rfl ?_
                    refine W.seq rfl ?_
                    refine W.region rfl ?_
                    refine Ops.y rfl rfl rfl hst.ctx (Y.moveP rfl) ?_
                    refine Ops.y rfl rfl rfl hst.ctx (Y.moveI rfl) ?_
                    refine Ops.y rfl rfl rfl hst.ctx (Y.moveT rfl) ?_
                    refine Ops.x rfl rfl rfl (X.call cf10 rfl ?_)
                    refine use_call (Push_any b _ (pushQ qs other (l.getD k es)) who _ _ _ _ _ _ hst (by decide)) rfl ?_; clear hst; rintro e w2 ⟨rfl, hst⟩; refine ⟨_, rfl, ?_⟩
                    refine Ops.y rfl rfl rfl hst.ctx (Y.moveI rfl) ?_
                    refine Ops.yb rfl rfl rfl hst.ctx (Y.neq rfl rfl) (fun b74 hb74 => ?_)
                    refine Ops.done rfl ?_
                    cases b74
                    · replace hb74 := of_decide_eq_false hb74.symm
                      refine W.condF rfl rfl ?_
                      refine W.skip rfl ?_
                      refine W.region rfl ?_
                      refine Ops.y rfl rfl rfl hst.ctx (Y.addI rfl rfl (by omega)) ?_
                      refine Ops.y rfl rfl rfl hst.ctx (Y.moveI rfl) ?_
                      refine Ops.done rfl ?_
                      exact ⟨(k + 1, pushQ (pushQ qs other (l.getD k es)) who (l.getD k es)), ⟨rfl, trivial⟩, ⟨rfl, rfl, rfl, rfl, rfl, rfl, trivial⟩, ⟨by dsimp only; omega, by dsimp only; have hq48 := hst.qfacts.1; rw [show pushQ (pushQ qs other (l.getD k es)) who (l.getD k es) = (pushQ qs other (l.getD k es)).set who.toNat (putQ (qat (pushQ qs other (l.getD k es)) who) (l.getD k es)) from if_pos ⟨hin, hsz k hk1⟩] at hq48 ⊢; rw [List.length_set] at hq48; rw [qat_set_eq hin hq48, hq1, lastQ_put hk1], hst⟩, by dsimp only; omega⟩
                    · replace hb74 := of_decide_eq_true hb74.symm
                      first | exact absurd (hE.trans (if_pos (show (lastQ l k).length = 64 by omega))) hb74 | exact absurd (hE.trans (if_neg (show ¬ (lastQ l k).length = 64 by omega))) hb74
            · replace hb53 := of_decide_eq_true hb53.symm
              refine W.condT rfl rfl ?_
              refine W.seq rfl ?_
              refine W.region rfl ?_
              refine Ops.y rfl rfl rfl hst.ctx (Y.assignB rfl) ?_
              refine Ops.done rfl ?_
              refine W.ret rfl ?_
              refine ⟨_, Rslt.one Try.results5 rfl, ?_⟩
              exact ⟨rfl, by first | exact hst.below | exact hst.drop.below⟩
          · replace hb48 := of_decide_eq_true hb48.symm
            refine Ops.no rfl rfl rfl ?_
            refine Ops.no rfl rfl rfl ?_
            refine Ops.no rfl rfl rfl ?_
            refine Ops.y rfl rfl rfl hst.ctx (Y.pick (.bool _) rfl rfl) ?_
            refine Ops.done rfl ?_
            refine W.condT rfl rfl ?_
            refine W.seq rfl ?_
            refine W.region rfl ?_
            refine Ops.y rfl rfl rfl hst.ctx (Y.assignB rfl) ?_
            refine Ops.done rfl ?_
            refine W.ret rfl ?_
            refine ⟨_, Rslt.one Try.results5 rfl, ?_⟩
            exact ⟨rfl, by first | exact hst.below | exact hst.drop.below⟩
        · replace hb44 := of_decide_eq_true hb44.symm
          refine Ops.no rfl rfl rfl ?_
          refine Ops.no rfl rfl rfl ?_
          refine Ops.y rfl rfl rfl hst.ctx (Y.pick (.bool _) rfl rfl) ?_
          refine Ops.y rfl rfl rfl hst.ctx (Y.moveB rfl) ?_
          refine Ops.no rfl rfl rfl ?_
          refine Ops.no rfl rfl rfl ?_
          refine Ops.no rfl rfl rfl ?_
          refine Ops.y rfl rfl rfl hst.ctx (Y.pick (.bool _) rfl rfl) ?_
          refine Ops.done rfl ?_
          refine W.condT rfl rfl ?_
          refine W.seq rfl ?_
          refine W.region rfl ?_
          refine Ops.y rfl rfl rfl hst.ctx (Y.assignB rfl) ?_
          refine Ops.done rfl ?_
          refine W.ret rfl ?_
          refine ⟨_, Rslt.one Try.results5 rfl, ?_⟩
          exact ⟨rfl, by first | exact hst.below | exact hst.drop.below⟩
      · replace hb41 := of_decide_eq_true hb41.symm
        refine Ops.no rfl rfl rfl ?_
        refine Ops.no rfl rfl rfl ?_
        refine Ops.y rfl rfl rfl hst.ctx (Y.pick (.bool _) rfl rfl) ?_
        refine Ops.y rfl rfl rfl hst.ctx (Y.moveB rfl) ?_
        refine Ops.no rfl rfl rfl ?_
        refine Ops.no rfl rfl rfl ?_
        refine Ops.y rfl rfl rfl hst.ctx (Y.pick (.bool _) rfl rfl) ?_
        refine Ops.y rfl rfl rfl hst.ctx (Y.moveB rfl) ?_
        refine Ops.no rfl rfl rfl ?_
        refine Ops.no rfl rfl rfl ?_
        refine Ops.no rfl rfl rfl ?_
        refine Ops.y rfl rfl rfl hst.ctx (Y.pick (.bool _) rfl rfl) ?_
        refine Ops.done rfl ?_
        refine W.condT rfl rfl ?_
        refine W.seq rfl ?_
        refine W.region rfl ?_
        refine Ops.y rfl rfl rfl hst.ctx (Y.assignB rfl) ?_
        refine Ops.done rfl ?_
        refine W.ret rfl ?_
        refine ⟨_, Rslt.one Try.results5 rfl, ?_⟩
        exact ⟨rfl, by first | exact hst.below | exact hst.drop.below⟩
    · replace hb24 := of_decide_eq_true hb24.symm
      refine W.condT rfl rfl ?_
      refine W.skip rfl ?_
      refine W.seq rfl ?_
      refine W.block rfl ?_
      refine W.seq rfl ?_
      refine W.region rfl ?_
      have hk1 : k < l.length := by omega
      refine Ops.y rfl rfl rfl hst.ctx (Y.indexAddr Try.underlying46 Try.sizeOf9 rfl rfl (((hr.mono (fun r h => nomatch h) (fun r h => h)).sl hst).ne (by rw [bss_length]; omega)) (by omega)) ?_
      first
      | refine Ops.y rfl rfl rfl hst.ctx (Y.load 0 Try.isAgg9 rfl rfl rfl) ?_
      | refine Ops.y rfl rfl rfl hst.ctx (Y.loadSl Try.isAgg9 rfl (hr.mono (fun r h => nomatch h) (fun r h => h)) (bss_get hk1)) ?_
      refine Ops.y rfl rfl rfl hst.ctx (Y.assignT rfl) ?_
      refine Ops.done rfl ?_
      refine W.seq rfl ?_
      refine W.region rfl ?_
      refine Ops.y rfl rfl rfl hst.ctx (Y.moveI rfl) ?_
      refine Ops.y rfl rfl rfl hst.ctx (Y.moveT rfl) ?_
      refine Ops.y rfl rfl rfl hst.ctx (Y.lenT Try.underlying9 rfl) ?_
      refine Ops.y rfl rfl rfl hst.ctx (Y.add rfl rfl) ?_
      refine Ops.y rfl rfl rfl hst.ctx (Y.assignI rfl) ?_
      refine Ops.done rfl ?_
      refine W.seq rfl ?_
      refine W.region rfl ?_
      refine Ops.y rfl rfl rfl hst.ctx (Y.moveI rfl) ?_
      refine Ops.yb rfl rfl rfl hst.ctx (Y.gtr rfl rfl) (fun b32 hb32 => ?_)
      refine Ops.y rfl rfl rfl hst.ctx (Y.moveB rfl) ?_
      cases b32
      · replace hb32 := of_decide_eq_false hb32.symm
        refine Ops.y rfl rfl rfl hst.ctx (Y.moveT rfl) ?_
        refine Ops.y rfl rfl rfl hst.ctx (Y.lenT Try.underlying9 rfl) ?_
        refine Ops.yb rfl rfl rfl hst.ctx (Y.gtr rfl rfl) (fun b36 hb36 => ?_)
        refine Ops.y rfl rfl rfl hst.ctx (Y.pick (.bool _) rfl rfl) ?_
        refine Ops.done rfl ?_
        cases b36
        · replace hb36 := of_decide_eq_false hb36.symm
          refine W.condF rfl rfl ?_
          refine W.skip rfl ?_
          refine W.region rfl ?_
          refine Ops.y rfl rfl rfl hst.ctx (Y.addI rfl rfl (by omega)) ?_
          refine Ops.y rfl rfl rfl hst.ctx (Y.moveI rfl) ?_
          refine Ops.done rfl ?_
          exact ⟨(k + 1, _), ⟨rfl, rfl, trivial⟩, ⟨rfl, rfl, rfl, rfl, rfl, trivial⟩, ⟨by dsimp only; omega, fun j hj => by dsimp only at hj; rcases Nat.lt_succ_iff_lt_or_eq.1 hj with h | h; exact hall j h; subst h; omega, hst⟩, by dsimp only; omega⟩
        · replace hb36 := of_decide_eq_true hb36.symm
          refine W.condT rfl rfl ?_
          refine W.seq rfl ?_
          refine W.region rfl ?_
          refine Ops.y rfl rfl rfl hst.ctx (Y.assignB rfl) ?_
          refine Ops.done rfl ?_
          refine W.ret rfl ?_
          refine ⟨_, Rslt.one Try.results5 rfl, ?_⟩
          exact ⟨rfl, by first | exact hst.below | exact hst.drop.below⟩
      · replace hb32 := of_decide_eq_true hb32.symm
        refine Ops.no rfl rfl rfl ?_
        refine Ops.no rfl rfl rfl ?_
        refine Ops.no rfl rfl rfl ?_
        refine Ops.y rfl rfl rfl hst.ctx (Y.pick (.bool _) rfl rfl) ?_
        refine Ops.done rfl ?_
        refine W.condT rfl rfl ?_
        refine W.seq rfl ?_
        refine W.region rfl ?_
        refine Ops.y rfl rfl rfl hst.ctx (Y.assignB rfl) ?_
        refine Ops.done rfl ?_
        refine W.ret rfl ?_
        refine ⟨_, Rslt.one Try.results5 rfl, ?_⟩
        exact ⟨rfl, by first | exact hst.below | exact hst.drop.below⟩
end Go.Proofs.Ytcafmbbimoddjaa.LN
