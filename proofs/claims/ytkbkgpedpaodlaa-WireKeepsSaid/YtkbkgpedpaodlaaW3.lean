/- The walk of WireTells. -/
import Derived.Test.YtkbkgpedpaodlaaW2
set_option linter.unusedVariables false
set_option linter.unusedSimpArgs false
namespace Go.Proofs.Ytkbkgpedpaodlaa.W
open Go.RowKit Go.Proofs.Ytkbkgpedpaodlaa.K Go.Proofs.Ytkbkgpedpaodlaa.CM


theorem Y.indexAddrC {P : Program} {S : World → Prop} {ρ : Env} {ty t : TypeId} {x y : Operand} {e : TypeId} (ht : P.underlying t = some (.slice e)) {size : Nat} (hs : ∀ w, (sizeOf e).run P w = .ok size w) {b j l cp : Nat} (hx : ev ρ x = .slice (some ⟨b, j, none⟩) l cp) {ki : IntKind} {i : Int} (hi : ev ρ y = .int ki i) (h0 : 0 ≤ i ∧ i < l) :
    Y P S ρ (.indexAddr t x y) ty (.pointer (some ⟨b, j + i.toNat * size, none⟩)) := by
  have h := Y.indexAddr (S := S) (ty := ty) ht hs hx hi (by simp) h0
  have e : elt (some ⟨b, j, none⟩) i size = ⟨b, j + i.toNat * size, none⟩ := by unfold elt; exact add_lit' ..
  rwa [e] at h
theorem wrap_small {n : Int} (h : 0 ≤ n ∧ n < 64) : (IntKind.u64.wrap n).toNat = n.toNat := by rw [wrap_u64]; omega
theorem bitAt (c : W32) (k : Nat) (h : k < 32) : decide (IntKind.u32.wrap (BitVec.ofInt IntKind.u32.bits ((iv c).fdiv (2 ^ (min (IntKind.u64.wrap (k : Int)).toNat IntKind.u32.bits))) &&& BitVec.ofInt IntKind.u32.bits 1).toNat = 1) = decide (c.getLsbD k = true) := by
  rw [decide_eq_decide, wrap_small (by omega)]
  have e1 : min (k : Int).toNat IntKind.u32.bits = k := by show min (k : Int).toNat 32 = k; omega
  have e2 : (iv c).fdiv (2 ^ k) = iv (c >>> k) := by
    unfold iv
    have e3 : (2 : Int) ^ k = ((2 ^ k : Nat) : Int) := by norm_cast
    rw [e3, ← Int.ofNat_fdiv, BitVec.toNat_ushiftRight, Nat.shiftRight_eq_div_pow]
  rw [e1, e2]
  have h3 := and_one (c >>> k)
  unfold Go.bits at h3
  have e4 : (c >>> k).getLsbD 0 = c.getLsbD k := by simp
  rw [e4] at h3
  exact h3
theorem Y.bitAt {P : Program} {S : World → Prop} {ρ : Env} {ty t t' : TypeId} {x : Operand} {c : W32} {k : Nat} (h : k < 32) (hx : ev ρ x = .int .u32 (IntKind.u32.wrap (BitVec.ofInt IntKind.u32.bits ((iv c).fdiv (2 ^ (min (IntKind.u64.wrap (k : Int)).toNat IntKind.u32.bits))) &&& BitVec.ofInt IntKind.u32.bits 1).toNat)) : Y P S ρ (.binOp .eql t x (.const (.int .u32 1)) t') ty (.bool (decide (c.getLsbD k = true))) := by
  rw [← W.bitAt c k h]; exact Y.eql hx rfl
theorem flip_val (x : UInt8) (n : Int) (r : Nat) (h : n % 8 = (r : Int)) : Value.int .u8 (IntKind.u8.wrap (BitVec.ofInt IntKind.u8.bits (x.toNat : Int) ^^^ BitVec.ofInt IntKind.u8.bits (IntKind.u8.wrap (1 * 2 ^ (min (IntKind.u64.wrap (n % 8)).toNat IntKind.u8.bits)))).toNat) = bv (x ^^^ UInt8.ofNat (2 ^ r)) := by
  have hr : r < 8 := by omega
  rw [wrap_small (by omega), h]
  have e1 : min (r : Int).toNat IntKind.u8.bits = r := by show min (r : Int).toNat 8 = r; omega
  rw [e1]
  have e : ∀ z : UInt8, BitVec.ofInt IntKind.u8.bits (z.toNat : Int) = z.toBitVec := fun z => by
    show BitVec.ofInt 8 (z.toNat : Int) = z.toBitVec
    rw [BitVec.ofInt_natCast, ← UInt8.toNat_toBitVec, BitVec.ofNat_toNat, BitVec.setWidth_eq]
  have e2 : IntKind.u8.wrap (1 * 2 ^ r) = ((UInt8.ofNat (2 ^ r)).toNat : Int) := by
    rw [wrap_u8, UInt8.toNat_ofNat']
    have e3 : (2 : Int) ^ r = ((2 ^ r : Nat) : Int) := by norm_cast
    rw [e3, show (2 : Nat) ^ 8 = 256 from rfl]
    omega
  rw [e2, e, e]
  unfold bv
  refine congrArg (Value.int .u8) ?_
  show IntKind.u8.wrap ((x.toBitVec ^^^ (UInt8.ofNat (2 ^ r)).toBitVec).toNat : Int) = _
  rw [wrap_u8, ← UInt8.toBitVec_xor, UInt8.toNat_toBitVec]
  have := (x ^^^ UInt8.ofNat (2 ^ r)).toNat_lt
  omega
theorem flip_set (l : List UInt8) (z : List Value) (n j r : Nat) (hj : j = n / 8) (hr : r = n % 8) (h : j < l.length) : (bvs l ++ z).set j (bv (l.getD j 0 ^^^ UInt8.ofNat (2 ^ r))) = bvs (flipB l n) ++ z := by
  subst hj; subst hr
  rw [List.set_append_left _ _ (by rw [bvs_length]; exact h)]
  unfold flipB bvs
  rw [List.map_set]
theorem tells_dec (m : M) (hok : m.Ok) (a : Nat) (bw : W32) (hb : bw ≠ 0#32) (h : a + 32 ≤ 8 * (sealed m.fr).length) : decR (turned (sealed m.fr) a bw 32) = (M0, 5) := by
  have hl : (turned (sealed m.fr) a bw 32).length = (sealed m.fr).length := turned_length ..
  have h32 := Ok.len hok
  have hs := sealed_fr_len m
  refine decR_sum (by omega) ?_
  cases ho : opn (turned (sealed m.fr) a bw 32) with
  | none => rfl
  | some p =>
    have h1 := opn_some ho
    unfold sealed at h1
    exact absurd rfl (tells m.fr p (le4 (crc p)) a bw (by rw [sealed_len] at h; exact h) hb h1)
theorem Rds.empty {L G : List Res} {g : Res} : Rds L (g :: G) (.slice none 0 0) 0 (lcs []) := Rds.nilG _
set_option maxHeartbeats 1000000 in
theorem WireTells_no (m : M) (hno : ¬ m.Ok) (A : Option Addr) (cap : Nat) (at_ bits : Int) (w : World) (hs : Sl w (.slice A m.tab.length cap) m.tab.length (lcs m.tab)) (hin : m.In) :
    Calls Try.prog 7 #[.agg #[.int .i64 m.kind, .int .i64 m.from_, .int .i64 m.slo, .int .i64 m.shi, .int .i64 m.held, .int .i64 m.hops, .bool m.good, .bool m.ref, .int .i64 m.elo, .int .i64 m.ehi, .int .i64 m.pulse, .int .i64 m.time, .int .i64 m.num, .slice A m.tab.length cap], .int .i64 at_, .int .u32 bits] w fun e w' => e = .returned (.bool true) ∧ Below w.heap.size w w' := by
  have hst := (St.start w).arg hs
  have hr : Rds [] [slR (.slice A m.tab.length cap) m.tab.length (lcs m.tab)] (.slice A m.tab.length cap) m.tab.length (lcs m.tab) := Rds.slG 0 rfl
  refine W.func Try.func7 rfl Try.ntmps7 rfl ?_
  refine W.seq rfl ?_
  refine W.region rfl ?_
  refine Ops.x rfl rfl rfl (X.boxA hst rfl ?_)
  clear hst; intro p3 w3 hst
  refine Ops.y rfl rfl rfl hst.ctx (Y.assignB rfl) ?_
  refine Ops.done rfl ?_
  refine W.seq rfl ?_
  refine W.seq rfl ?_
  refine W.region rfl ?_
  refine Ops.x rfl rfl rfl (X.call cf15 rfl ?_)
  refine use_call (alive_any _ _ _ _ _ hst) rfl ?_; clear hst; rintro e w1 ⟨rfl, hst⟩; refine ⟨_, rfl, ?_⟩
  refine Ops.y rfl rfl rfl hst.ctx (Y.not rfl) ?_
  refine Ops.done rfl ?_
  refine W.condF rfl rfl ?_
  refine W.skip rfl ?_
  refine W.seq rfl ?_
  refine W.seq rfl ?_
  refine W.region rfl ?_
  refine Ops.y rfl rfl rfl hst.ctx (Y.loadA 0 Try.isAgg28 Try.sizeOf28 rfl rfl rfl rfl) ?_
  refine Ops.x rfl rfl rfl (X.call cf11 rfl ?_)
  refine use_call (long_b m.kind m.from_ m.slo m.shi m.held m.hops m.good m.ref m.elo m.ehi m.pulse m.time m.num m.tab _ _ _ _ _ _ _ hst) rfl ?_; clear hst; rintro e w1 ⟨b16, rfl, hb16, hst⟩; refine ⟨_, rfl, ?_⟩
  refine Ops.y rfl rfl rfl hst.ctx (Y.moveB rfl) ?_
  cases b16
  · replace hb16 := of_decide_eq_false hb16.symm
    refine Ops.y rfl rfl rfl hst.ctx (Y.moveI rfl) ?_
    refine Ops.yb rfl rfl rfl hst.ctx (Y.eql rfl rfl) (fun b19 hb19 => ?_)
    refine Ops.y rfl rfl rfl hst.ctx (Y.pick (.bool _) rfl rfl) ?_
    refine Ops.y rfl rfl rfl hst.ctx (Y.moveB rfl) ?_
    cases b19
    · replace hb19 := of_decide_eq_false hb19.symm
      refine Ops.y rfl rfl rfl hst.ctx (Y.moveI rfl) ?_
      refine Ops.yb rfl rfl rfl hst.ctx (Y.lss rfl rfl) (fun b23 hb23 => ?_)
      refine Ops.y rfl rfl rfl hst.ctx (Y.pick (.bool _) rfl rfl) ?_
      refine Ops.done rfl ?_
      cases b23
      · replace hb23 := of_decide_eq_false hb23.symm
        refine W.condF rfl rfl ?_
        refine W.skip rfl ?_
        refine W.seq rfl ?_
        refine W.region rfl ?_
        refine Ops.y rfl rfl rfl hst.ctx (Y.loadA 0 Try.isAgg28 Try.sizeOf28 rfl rfl rfl rfl) ?_
        refine Ops.x rfl rfl rfl (X.call cf16 rfl ?_)
        refine use_call (Enc_no m hno _ _ _ _ _ _ _ hst (hr.cons _) hin) rfl ?_; clear hst; rintro e w1 ⟨rfl, hst⟩; refine ⟨_, rfl, ?_⟩
        refine Ops.y rfl rfl rfl hst.ctx (Y.moveU rfl) ?_
        refine Ops.y rfl rfl rfl hst.ctx (Y.extract rfl rfl) ?_
        refine Ops.y rfl rfl rfl hst.ctx (Y.extract rfl rfl) ?_
        refine Ops.y rfl rfl rfl hst.ctx (Y.assignT rfl) ?_
        refine Ops.y rfl rfl rfl hst.ctx (Y.assignI rfl) ?_
        refine Ops.done rfl ?_
        refine W.seq rfl ?_
        refine W.seq rfl ?_
        refine W.region rfl ?_
        refine Ops.y rfl rfl rfl hst.ctx (Y.moveI rfl) ?_
        refine Ops.yb rfl rfl rfl hst.ctx (Y.neq rfl rfl) (fun b31 hb31 => ?_)
        refine Ops.y rfl rfl rfl hst.ctx (Y.moveB rfl) ?_
        cases b31
        · replace hb31 := of_decide_eq_false hb31.symm
          exact absurd (by decide) hb31
        · replace hb31 := of_decide_eq_true hb31.symm
          refine Ops.no rfl rfl rfl ?_
          refine Ops.no rfl rfl rfl ?_
          refine Ops.no rfl rfl rfl ?_
          refine Ops.no rfl rfl rfl ?_
          refine Ops.no rfl rfl rfl ?_
          refine Ops.no rfl rfl rfl ?_
          refine Ops.y rfl rfl rfl hst.ctx (Y.pick (.bool _) rfl rfl) ?_
          refine Ops.done rfl ?_
          refine W.condT rfl rfl ?_
          refine W.seq rfl ?_
          refine W.region rfl ?_
          refine Ops.y rfl rfl rfl hst.ctx (Y.assignB rfl) ?_
          refine Ops.done rfl ?_
          refine W.ret rfl ?_
          refine ⟨_, Rslt.one Try.results7 rfl, ?_⟩
          exact ⟨rfl, hst.drop.below⟩
      · replace hb23 := of_decide_eq_true hb23.symm
        refine W.condT rfl rfl ?_
        refine W.seq rfl ?_
        refine W.region rfl ?_
        refine Ops.y rfl rfl rfl hst.ctx (Y.assignB rfl) ?_
        refine Ops.done rfl ?_
        refine W.ret rfl ?_
        refine ⟨_, Rslt.one Try.results7 rfl, ?_⟩
        exact ⟨rfl, hst.drop.below⟩
    · replace hb19 := of_decide_eq_true hb19.symm
      refine Ops.no rfl rfl rfl ?_
      refine Ops.no rfl rfl rfl ?_
      refine Ops.y rfl rfl rfl hst.ctx (Y.pick (.bool _) rfl rfl) ?_
      refine Ops.done rfl ?_
      refine W.condT rfl rfl ?_
      refine W.seq rfl ?_
      refine W.region rfl ?_
      refine Ops.y rfl rfl rfl hst.ctx (Y.assignB rfl) ?_
      refine Ops.done rfl ?_
      refine W.ret rfl ?_
      refine ⟨_, Rslt.one Try.results7 rfl, ?_⟩
      exact ⟨rfl, hst.drop.below⟩
  · replace hb16 := of_decide_eq_true hb16.symm
    refine Ops.no rfl rfl rfl ?_
    refine Ops.no rfl rfl rfl ?_
    refine Ops.y rfl rfl rfl hst.ctx (Y.pick (.bool _) rfl rfl) ?_
    refine Ops.y rfl rfl rfl hst.ctx (Y.moveB rfl) ?_
    refine Ops.no rfl rfl rfl ?_
    refine Ops.no rfl rfl rfl ?_
    refine Ops.y rfl rfl rfl hst.ctx (Y.pick (.bool _) rfl rfl) ?_
    refine Ops.done rfl ?_
    refine W.condT rfl rfl ?_
    refine W.seq rfl ?_
    refine W.region rfl ?_
    refine Ops.y rfl rfl rfl hst.ctx (Y.assignB rfl) ?_
    refine Ops.done rfl ?_
    refine W.ret rfl ?_
    refine ⟨_, Rslt.one Try.results7 rfl, ?_⟩
    exact ⟨rfl, hst.drop.below⟩

set_option maxHeartbeats 1000000 in
theorem WireTells_ok (m : M) (hok : m.Ok) (A : Option Addr) (cap : Nat) (at_ : Int) (bw : W32) (w0 : World) (hs : Sl w0 (.slice A m.tab.length cap) m.tab.length (lcs m.tab)) (hin : m.In) :
    Calls Try.prog 7 #[.agg #[.int .i64 m.kind, .int .i64 m.from_, .int .i64 m.slo, .int .i64 m.shi, .int .i64 m.held, .int .i64 m.hops, .bool m.good, .bool m.ref, .int .i64 m.elo, .int .i64 m.ehi, .int .i64 m.pulse, .int .i64 m.time, .int .i64 m.num, .slice A m.tab.length cap], .int .i64 at_, .int .u32 (iv bw)] w0 fun e w' => e = .returned (.bool true) ∧ Below w0.heap.size w0 w' := by
  have hst := (St.start w0).arg hs
  have hr : Rds [] [slR (.slice A m.tab.length cap) m.tab.length (lcs m.tab)] (.slice A m.tab.length cap) m.tab.length (lcs m.tab) := Rds.slG 0 rfl
  have hlen : (sealed m.fr).length ≤ 592 := by rw [sealed_fr_len]; have := Ok.len hok; omega
  have hsz := str_sz (sealed m.fr)
  refine W.func Try.func7 rfl Try.ntmps7 rfl ?_
  refine W.seq rfl ?_
  refine W.region rfl ?_
  refine Ops.x rfl rfl rfl (X.boxA hst rfl ?_)
  clear hst; intro p3 w3 hst
  refine Ops.y rfl rfl rfl hst.ctx (Y.assignB rfl) ?_
  refine Ops.done rfl ?_
  refine W.seq rfl ?_
  refine W.seq rfl ?_
  refine W.region rfl ?_
  refine Ops.x rfl rfl rfl (X.call cf15 rfl ?_)
  refine use_call (alive_any _ _ _ _ _ hst) rfl ?_; clear hst; rintro e w1 ⟨rfl, hst⟩; refine ⟨_, rfl, ?_⟩
  refine Ops.y rfl rfl rfl hst.ctx (Y.not rfl) ?_
  refine Ops.done rfl ?_
  refine W.condF rfl rfl ?_
  refine W.skip rfl ?_
  refine W.seq rfl ?_
  refine W.seq rfl ?_
  refine W.region rfl ?_
  refine Ops.y rfl rfl rfl hst.ctx (Y.loadA 0 Try.isAgg28 Try.sizeOf28 rfl rfl rfl rfl) ?_
  refine Ops.x rfl rfl rfl (X.call cf11 rfl ?_)
  refine use_call (long_b m.kind m.from_ m.slo m.shi m.held m.hops m.good m.ref m.elo m.ehi m.pulse m.time m.num m.tab _ _ _ _ _ _ _ hst) rfl ?_; clear hst; rintro e w1 ⟨b16, rfl, hb16, hst⟩; refine ⟨_, rfl, ?_⟩
  refine Ops.y rfl rfl rfl hst.ctx (Y.moveB rfl) ?_
  cases b16
  · replace hb16 := of_decide_eq_false hb16.symm
    refine Ops.y rfl rfl rfl hst.ctx (Y.moveI rfl) ?_
    refine Ops.yb rfl rfl rfl hst.ctx (Y.eql rfl rfl) (fun b19 hb19 => ?_)
    refine Ops.y rfl rfl rfl hst.ctx (Y.pick (.bool _) rfl rfl) ?_
    refine Ops.y rfl rfl rfl hst.ctx (Y.moveB rfl) ?_
    cases b19
    · replace hb19 := of_decide_eq_false hb19.symm
      refine Ops.y rfl rfl rfl hst.ctx (Y.moveI rfl) ?_
      refine Ops.yb rfl rfl rfl hst.ctx (Y.lss rfl rfl) (fun b23 hb23 => ?_)
      refine Ops.y rfl rfl rfl hst.ctx (Y.pick (.bool _) rfl rfl) ?_
      refine Ops.done rfl ?_
      cases b23
      · replace hb23 := of_decide_eq_false hb23.symm
        refine W.condF rfl rfl ?_
        refine W.skip rfl ?_
        refine W.seq rfl ?_
        refine W.region rfl ?_
        refine Ops.y rfl rfl rfl hst.ctx (Y.loadA 0 Try.isAgg28 Try.sizeOf28 rfl rfl rfl rfl) ?_
        refine Ops.x rfl rfl rfl (X.call cf16 rfl ?_)
        refine use_call (Enc_ok m hok _ _ _ _ _ _ _ hst (hr.cons _) hin) rfl ?_; clear hst; rintro e w1 ⟨rfl, hst⟩; refine ⟨_, rfl, ?_⟩
        refine Ops.y rfl rfl rfl hst.ctx (Y.moveU rfl) ?_
        refine Ops.y rfl rfl rfl hst.ctx (Y.extract rfl rfl) ?_
        refine Ops.y rfl rfl rfl hst.ctx (Y.extract rfl rfl) ?_
        refine Ops.y rfl rfl rfl hst.ctx (Y.assignT rfl) ?_
        refine Ops.y rfl rfl rfl hst.ctx (Y.assignI rfl) ?_
        refine Ops.done rfl ?_
        refine W.seq rfl ?_
        refine W.seq rfl ?_
        refine W.region rfl ?_
        refine Ops.y rfl rfl rfl hst.ctx (Y.moveI rfl) ?_
        refine Ops.yb rfl rfl rfl hst.ctx (Y.neq rfl rfl) (fun b31 hb31 => ?_)
        refine Ops.y rfl rfl rfl hst.ctx (Y.moveB rfl) ?_
        cases b31
        · replace hb31 := of_decide_eq_false hb31.symm
          refine Ops.y rfl rfl rfl hst.ctx (Y.moveI rfl) ?_
          refine Ops.y rfl rfl rfl hst.ctx (Y.moveT rfl) ?_
          refine Ops.y rfl rfl rfl hst.ctx (Y.lenT Try.underlying9 rfl) ?_
          refine Ops.y rfl rfl rfl hst.ctx (Y.mulI rfl rfl (by omega)) ?_
          refine Ops.y rfl rfl rfl hst.ctx (Y.subI rfl rfl (by omega)) ?_
          refine Ops.yb rfl rfl rfl hst.ctx (Y.gtr rfl rfl) (fun b38 hb38 => ?_)
          refine Ops.y rfl rfl rfl hst.ctx (Y.pick (.bool _) rfl rfl) ?_
          refine Ops.done rfl ?_
          cases b38
          · replace hb38 := of_decide_eq_false hb38.symm
            refine W.condF rfl rfl ?_
            refine W.skip rfl ?_
            refine W.seq rfl ?_
            obtain ⟨a, ha⟩ : ∃ a : Nat, at_ = (a : Int) := ⟨at_.toNat, by omega⟩
            have hal : a + 32 ≤ 8 * (sealed m.fr).length := by omega
            have hbw : bw ≠ 0#32 := by
              rintro rfl
              exact hb19 (by decide)
            refine W.region rfl ?_
            refine Ops.y rfl rfl rfl hst.ctx (Y.moveT rfl) ?_
            refine Ops.x rfl rfl rfl (X.bytes hst Try.underlying9 Try.underlying41 Try.underlying5 rfl ?_)
            clear hst; intro pb mz w8 hst
            refine Ops.y rfl rfl rfl hst.ctx (Y.assignS rfl) ?_
            refine Ops.done rfl ?_
            refine W.seq rfl ?_
            refine W.seq rfl ?_
            refine W.region rfl ?_
            refine Ops.y rfl rfl rfl hst.ctx (Y.assignI rfl) ?_
            refine Ops.done rfl ?_
            refine W.block rfl ?_
            refine W.loop (γ := Nat) [(1, .int _ _), (2, .int _ _), (9, .slice _ _ _)] (fun k => [(10, .int .i64 (k : Int))]) (fun k w => k ≤ 32 ∧ St w0 [] w [cellsR pb (bvs (turned (sealed m.fr) a bw k) ++ List.replicate mz (Value.int .u8 0)) 5, cellsR p3 [.int .i64 m.kind, .int .i64 m.from_, .int .i64 m.slo, .int .i64 m.shi, .int .i64 m.held, .int .i64 m.hops, .bool m.good, .bool m.ref, .int .i64 m.elo, .int .i64 m.ehi, .int .i64 m.pulse, .int .i64 m.time, .int .i64 m.num, .slice A m.tab.length cap] 28] [slR (.slice A m.tab.length cap) m.tab.length (lcs m.tab)]) (fun k => 32 - k) (0) rfl ⟨rfl, rfl, rfl, trivial⟩ ?_ ?_ ?_
            · exact ⟨rfl, trivial⟩
            · exact ⟨by omega, hst⟩
            · clear hst; rintro k j w9 ⟨hk, hst⟩
              refine W.seq rfl ?_
              refine W.seq rfl ?_
              refine W.region rfl ?_
              refine Ops.y rfl rfl rfl hst.ctx (Y.moveI rfl) ?_
              refine Ops.yb rfl rfl rfl hst.ctx (Y.lss rfl rfl) (fun b43 hb43 => ?_)
              refine Ops.done rfl ?_
              cases b43
              · replace hb43 := of_decide_eq_false hb43.symm
                refine W.condF rfl rfl ?_
                refine W.exit rfl ?_
                refine W.seq rfl ?_
                have hk32 : k = 32 := by omega
                subst hk32
                have hlt : (turned (sealed m.fr) a bw 32).length = (sealed m.fr).length := turned_length ..
                refine W.region rfl ?_
                refine Ops.y rfl rfl rfl hst.ctx (Y.moveS rfl) ?_
                refine Ops.y rfl rfl rfl hst.ctx (Y.str Try.underlying41 Try.underlying5 Try.underlying9 rfl (l := (turned (sealed m.fr) a bw 32)) (Rds.front 0 rfl (by omega) (bytes_front _ mz)) hlt.symm) ?_
                refine Ops.x rfl rfl rfl (X.call cf18 rfl ?_)
                refine use_call (Dec_any (turned (sealed m.fr) a bw 32) M0 5 (tells_dec m hok a bw hbw hal) _ _ _ _ _ hst (by rw [hlt]; omega)) rfl ?_; clear hst; rintro e w2 ⟨A70, c70, rfl, hst⟩; refine ⟨_, rfl, ?_⟩
                refine Ops.y rfl rfl rfl hst.ctx (Y.moveU rfl) ?_
                refine Ops.y rfl rfl rfl hst.ctx (Y.extract rfl rfl) ?_
                refine Ops.y rfl rfl rfl hst.ctx (Y.extract rfl rfl) ?_
                refine Ops.x rfl rfl rfl (X.allocA hst Try.zeroValue28 ?_)
                clear hst; intro p11 w11 hst
                first
                | refine Ops.x rfl rfl rfl (X.storeS hst 0 Try.sizeOf28 rfl rfl rfl rfl rfl (Nat.le_of_ble_eq_true rfl) rfl rfl ?_)
                | refine Ops.x rfl rfl rfl (X.storeS hst 1 Try.sizeOf28 rfl rfl rfl rfl rfl (Nat.le_of_ble_eq_true rfl) rfl rfl ?_)
                | refine Ops.x rfl rfl rfl (X.storeS hst 2 Try.sizeOf28 rfl rfl rfl rfl rfl (Nat.le_of_ble_eq_true rfl) rfl rfl ?_)
                clear hst; intro w14_7 hst
                try simp only [List.set_cons_zero, List.set_cons_succ, Nat.zero_add, Nat.reduceAdd, splice, List.take, List.drop, List.append_eq, List.nil_append, List.cons_append, List.length_cons, List.length_nil] at hst
                refine Ops.y rfl rfl rfl hst.ctx (Y.assignI rfl) ?_
                refine Ops.done rfl ?_
                refine W.seq rfl ?_
                refine W.region rfl ?_
                refine Ops.y rfl rfl rfl hst.ctx (Y.moveI rfl) ?_
                refine Ops.yb rfl rfl rfl hst.ctx (Y.eql rfl rfl) (fun b74 hb74 => ?_)
                refine Ops.y rfl rfl rfl hst.ctx (Y.moveB rfl) ?_
                cases b74
                · replace hb74 := of_decide_eq_false hb74.symm
                  exact absurd rfl hb74
                · replace hb74 := of_decide_eq_true hb74.symm
                  first
                  | refine Ops.y rfl rfl rfl hst.ctx (Y.loadA 0 Try.isAgg28 Try.sizeOf28 rfl rfl rfl rfl) ?_
                  | refine Ops.y rfl rfl rfl hst.ctx (Y.loadA 1 Try.isAgg28 Try.sizeOf28 rfl rfl rfl rfl) ?_
                  | refine Ops.y rfl rfl rfl hst.ctx (Y.loadA 2 Try.isAgg28 Try.sizeOf28 rfl rfl rfl rfl) ?_
                  refine Ops.y rfl rfl rfl hst.ctx (bd28_ rfl) ?_
                  refine Ops.x rfl rfl rfl (X.call cf20 rfl ?_)
                  refine use_call (same_any M0 M0 (by decide) _ none _ 0 _ _ _ _ _ hst (Rds.rowL 1 rfl) Rds.empty) rfl ?_; clear hst; rintro e w1 ⟨b78, rfl, hb78, hst⟩; refine ⟨_, rfl, ?_⟩
                  refine Ops.y rfl rfl rfl hst.ctx (Y.pick (.bool _) rfl rfl) ?_
                  refine Ops.y rfl rfl rfl hst.ctx (Y.assignB rfl) ?_
                  refine Ops.done rfl ?_
                  refine W.ret rfl ?_
                  cases b78
                  · replace hb78 := of_decide_eq_false hb78.symm
                    exact absurd (same_iff.2 rfl) hb78
                  · replace hb78 := of_decide_eq_true hb78.symm
                    refine ⟨_, Rslt.one Try.results7 rfl, ?_⟩
                    exact ⟨rfl, (St.drop (St.drop (St.drop (St.drop hst)))).below⟩
              · replace hb43 := of_decide_eq_true hb43.symm
                refine W.condT rfl rfl ?_
                refine W.skip rfl ?_
                refine W.seq rfl ?_
                refine W.block rfl ?_
                refine W.seq rfl ?_
                have hk1 : k < 32 := by omega
                have hlt : (turned (sealed m.fr) a bw k).length = (sealed m.fr).length := turned_length ..
                refine W.region rfl ?_
                refine Ops.y rfl rfl rfl hst.ctx (Y.moveI rfl) ?_
                refine Ops.y rfl rfl rfl hst.ctx (Y.moveI rfl) ?_
                refine Ops.y rfl rfl rfl hst.ctx (Y.conv Try.underlying42 Try.underlying3 rfl) ?_
                refine Ops.y rfl rfl rfl hst.ctx (Y.shr rfl rfl (by rw [wrap_u64]; omega)) ?_
                refine Ops.y rfl rfl rfl hst.ctx (Y.and rfl rfl) ?_
                refine Ops.yb rfl rfl rfl hst.ctx (Y.bitAt hk1 rfl) (fun b51 hb51 => ?_)
                refine Ops.done rfl ?_
                refine W.cut [(1, .int _ _), (2, .int _ _), (9, .slice _ _ _), (10, .int _ _)] (fun _ : Unit => []) (fun _ w' => St w0 [] w' [cellsR pb (bvs (turned (sealed m.fr) a bw (k + 1)) ++ List.replicate mz (Value.int .u8 0)) 5, cellsR p3 [.int .i64 m.kind, .int .i64 m.from_, .int .i64 m.slo, .int .i64 m.shi, .int .i64 m.held, .int .i64 m.hops, .bool m.good, .bool m.ref, .int .i64 m.elo, .int .i64 m.ehi, .int .i64 m.pulse, .int .i64 m.time, .int .i64 m.num, .slice A m.tab.length cap] 28] [slR (.slice A m.tab.length cap) m.tab.length (lcs m.tab)]) ⟨rfl, rfl, rfl, rfl, trivial⟩ ?_ ?_
                rotate_left
                · clear hst; rintro _ j w2 hst
                  refine W.region rfl ?_
                  refine Ops.y rfl rfl rfl hst.ctx (Y.moveI rfl) ?_
                  refine Ops.y rfl rfl rfl hst.ctx (Y.addI rfl rfl (by omega)) ?_
                  refine Ops.y rfl rfl rfl hst.ctx (Y.assignI rfl) ?_
                  refine Ops.done rfl ?_
                  exact ⟨k + 1, ⟨rfl, trivial⟩, ⟨rfl, rfl, rfl, trivial⟩, ⟨by omega, hst⟩, by omega⟩
                cases b51
                · replace hb51 := of_decide_eq_false hb51.symm
                  refine W.condF rfl rfl ?_
                  refine W.skip rfl ?_
                  have e1 : (turned (sealed m.fr) a bw (k + 1)) = (turned (sealed m.fr) a bw k) := by
                    show (if bw.getLsbD k = true then _ else _) = _
                    rw [if_neg hb51]
                  rw [← e1] at hst
                  exact ⟨(), trivial, ⟨rfl, rfl, rfl, rfl, trivial⟩, hst⟩
                · replace hb51 := of_decide_eq_true hb51.symm
                  refine W.condT rfl rfl ?_
                  obtain ⟨j, hj⟩ : ∃ j, j = (a + k) / 8 := ⟨_, rfl⟩
                  obtain ⟨r, hr8⟩ : ∃ r, r = (a + k) % 8 := ⟨_, rfl⟩
                  have q1 : ((at_ + (k : Int)) / 8).toNat = j := by omega
                  have q2 : (at_ + (k : Int)) % 8 = (r : Int) := by omega
                  have hjl : j < (sealed m.fr).length := by omega
                  have hxc : (bvs (turned (sealed m.fr) a bw k) ++ List.replicate mz (Value.int .u8 0))[0 + ((at_ + (k : Int)) / 8).toNat * 1]? = some (.int .u8 (((turned (sealed m.fr) a bw k).getD j 0).toNat : Int)) := by
                    rw [q1, show 0 + j * 1 = j by omega, List.getElem?_append_left (by rw [bvs_length]; omega)]
                    simp [bvs, bv, hlt, hjl]
                  refine W.region rfl ?_
                  refine Ops.y rfl rfl rfl hst.ctx (Y.moveS rfl) ?_
                  refine Ops.y rfl rfl rfl hst.ctx (Y.moveI rfl) ?_
                  refine Ops.y rfl rfl rfl hst.ctx (Y.moveI rfl) ?_
                  refine Ops.y rfl rfl rfl hst.ctx (Y.addI rfl rfl (by omega)) ?_
                  refine Ops.y rfl rfl rfl hst.ctx (Y.quoI rfl rfl (by omega)) ?_
                  refine Ops.y rfl rfl rfl hst.ctx (Y.indexAddrC Try.underlying41 Try.sizeOf5 rfl rfl (by omega)) ?_
                  refine Ops.y rfl rfl rfl hst.ctx (Y.load 0 Try.isAgg5 rfl rfl hxc) ?_
                  refine Ops.y rfl rfl rfl hst.ctx (Y.moveI rfl) ?_
                  refine Ops.y rfl rfl rfl hst.ctx (Y.moveI rfl) ?_
                  refine Ops.y rfl rfl rfl hst.ctx (Y.addI rfl rfl (by omega)) ?_
                  refine Ops.y rfl rfl rfl hst.ctx (Y.remI rfl rfl (by omega)) ?_
                  refine Ops.y rfl rfl rfl hst.ctx (Y.conv Try.underlying42 Try.underlying3 rfl) ?_
                  refine Ops.y rfl rfl rfl hst.ctx (Y.shl rfl rfl (by rw [wrap_u64]; omega)) ?_
                  refine Ops.y rfl rfl rfl hst.ctx (Y.xor rfl rfl) ?_
                  refine Ops.y rfl rfl rfl hst.ctx (Y.indexAddrC Try.underlying41 Try.sizeOf5 rfl rfl (by omega)) ?_
                  refine Ops.x rfl rfl rfl (X.store hst 0 Try.sizeOf5 rfl rfl (v := bv ((turned (sealed m.fr) a bw k).getD j 0 ^^^ UInt8.ofNat (2 ^ r))) (by exact flip_val _ _ r q2) rfl (by rw [List.length_append, bvs_length, hlt, q1]; omega) (cs' := bvs (turned (sealed m.fr) a bw (k + 1)) ++ List.replicate mz (Value.int .u8 0)) (by rw [q1, show 0 + j * 1 = j by omega, flip_set _ _ (a + k) j r hj hr8 (by omega)]; congr 2; show _ = (if bw.getLsbD k = true then _ else _); rw [if_pos hb51]) rfl ?_)
                  clear hst; intro w13 hst
                  refine Ops.done rfl ?_
                  exact ⟨(), trivial, ⟨rfl, rfl, rfl, rfl, trivial⟩, hst⟩
          · replace hb38 := of_decide_eq_true hb38.symm
            refine W.condT rfl rfl ?_
            refine W.seq rfl ?_
            refine W.region rfl ?_
            refine Ops.y rfl rfl rfl hst.ctx (Y.assignB rfl) ?_
            refine Ops.done rfl ?_
            refine W.ret rfl ?_
            refine ⟨_, Rslt.one Try.results7 rfl, ?_⟩
            exact ⟨rfl, hst.drop.below⟩
        · replace hb31 := of_decide_eq_true hb31.symm
          exact absurd rfl hb31
      · replace hb23 := of_decide_eq_true hb23.symm
        refine W.condT rfl rfl ?_
        refine W.seq rfl ?_
        refine W.region rfl ?_
        refine Ops.y rfl rfl rfl hst.ctx (Y.assignB rfl) ?_
        refine Ops.done rfl ?_
        refine W.ret rfl ?_
        refine ⟨_, Rslt.one Try.results7 rfl, ?_⟩
        exact ⟨rfl, hst.drop.below⟩
    · replace hb19 := of_decide_eq_true hb19.symm
      refine Ops.no rfl rfl rfl ?_
      refine Ops.no rfl rfl rfl ?_
      refine Ops.y rfl rfl rfl hst.ctx (Y.pick (.bool _) rfl rfl) ?_
      refine Ops.done rfl ?_
      refine W.condT rfl rfl ?_
      refine W.seq rfl ?_
      refine W.region rfl ?_
      refine Ops.y rfl rfl rfl hst.ctx (Y.assignB rfl) ?_
      refine Ops.done rfl ?_
      refine W.ret rfl ?_
      refine ⟨_, Rslt.one Try.results7 rfl, ?_⟩
      exact ⟨rfl, hst.drop.below⟩
  · replace hb16 := of_decide_eq_true hb16.symm
    refine Ops.no rfl rfl rfl ?_
    refine Ops.no rfl rfl rfl ?_
    refine Ops.y rfl rfl rfl hst.ctx (Y.pick (.bool _) rfl rfl) ?_
    refine Ops.y rfl rfl rfl hst.ctx (Y.moveB rfl) ?_
    refine Ops.no rfl rfl rfl ?_
    refine Ops.no rfl rfl rfl ?_
    refine Ops.y rfl rfl rfl hst.ctx (Y.pick (.bool _) rfl rfl) ?_
    refine Ops.done rfl ?_
    refine W.condT rfl rfl ?_
    refine W.seq rfl ?_
    refine W.region rfl ?_
    refine Ops.y rfl rfl rfl hst.ctx (Y.assignB rfl) ?_
    refine Ops.done rfl ?_
    refine W.ret rfl ?_
    refine ⟨_, Rslt.one Try.results7 rfl, ?_⟩
    exact ⟨rfl, hst.drop.below⟩

theorem WireTells_walk (m : M) (A : Option Addr) (cap : Nat) (at_ bits : Int) (w : World) (hs : Sl w (.slice A m.tab.length cap) m.tab.length (lcs m.tab)) (hin : m.In) (hb : (Lit.int .u32 bits).wf = true) :
    Calls Try.prog 7 #[.agg #[.int .i64 m.kind, .int .i64 m.from_, .int .i64 m.slo, .int .i64 m.shi, .int .i64 m.held, .int .i64 m.hops, .bool m.good, .bool m.ref, .int .i64 m.elo, .int .i64 m.ehi, .int .i64 m.pulse, .int .i64 m.time, .int .i64 m.num, .slice A m.tab.length cap], .int .i64 at_, .int .u32 bits] w fun e w' => e = .returned (.bool true) ∧ Below w.heap.size w w' := by
  by_cases hok : m.Ok
  · obtain ⟨bw, rfl⟩ : ∃ bw : W32, bits = iv bw := ⟨BitVec.ofNat 32 bits.toNat, by
      have hbb : 0 ≤ bits ∧ bits ≤ 4294967295 := by
        simp [Lit.wf, IntKind.min, IntKind.max, IntKind.signed, IntKind.bits] at hb
        omega
      unfold iv
      rw [BitVec.toNat_ofNat]; omega⟩
    exact WireTells_ok m hok A cap at_ bw w hs hin
  · exact WireTells_no m hok A cap at_ bits w hs hin
end Go.Proofs.Ytkbkgpedpaodlaa.W
