/- What the wire's statements call, told of whole messages; the walk of alive. -/
import Derived.Test.YtkbkgpedpaodlaaWU
set_option linter.unusedVariables false
set_option linter.unusedSimpArgs false
namespace Go.Proofs.Ytkbkgpedpaodlaa.W
open Go.RowKit Go.Proofs.Ytkbkgpedpaodlaa.K Go.Proofs.Ytkbkgpedpaodlaa.CM
theorem Enc_any (m : M) (A : Option Addr) (cap : Nat) (w0 w : World) (F0 : List Nat) (L G : List Res) (hst : St w0 F0 w L G)
    (hr : Rds L G (.slice A m.tab.length cap) m.tab.length (lcs m.tab)) (hin : m.In) :
    Calls Try.prog 16 #[.agg #[.int .i64 m.kind, .int .i64 m.from_, .int .i64 m.slo, .int .i64 m.shi, .int .i64 m.held, .int .i64 m.hops, .bool m.good, .bool m.ref, .int .i64 m.elo, .int .i64 m.ehi, .int .i64 m.pulse, .int .i64 m.time, .int .i64 m.num, .slice A m.tab.length cap]] w fun e w' => e = .returned (.tuple #[.string (encM m).1, .int .i64 (encM m).2]) ∧ St w0 F0 w' L G :=
  Encode_any m.kind m.from_ m.slo m.shi m.held m.hops m.good m.ref m.elo m.ehi m.pulse m.time m.num m.tab _ _ w0 w F0 L G hst hr hin
theorem rEnc_any (m : M) (A : Option Addr) (cap : Nat) (w0 w : World) (F0 : List Nat) (L G : List Res) (hst : St w0 F0 w L G)
    (hr : Rds L G (.slice A m.tab.length cap) m.tab.length (lcs m.tab)) (hin : m.In) :
    Calls Try.prog 17 #[.agg #[.int .i64 m.kind, .int .i64 m.from_, .int .i64 m.slo, .int .i64 m.shi, .int .i64 m.held, .int .i64 m.hops, .bool m.good, .bool m.ref, .int .i64 m.elo, .int .i64 m.ehi, .int .i64 m.pulse, .int .i64 m.time, .int .i64 m.num, .slice A m.tab.length cap]] w fun e w' => e = .returned (.tuple #[.string (encM m).1, .int .i64 (encM m).2]) ∧ St w0 F0 w' L G :=
  rEncode_any m.kind m.from_ m.slo m.shi m.held m.hops m.good m.ref m.elo m.ehi m.pulse m.time m.num m.tab _ _ w0 w F0 L G hst hr hin
theorem Enc_ok (m : M) (hok : m.Ok) (A : Option Addr) (cap : Nat) (w0 w : World) (F0 : List Nat) (L G : List Res) (hst : St w0 F0 w L G)
    (hr : Rds L G (.slice A m.tab.length cap) m.tab.length (lcs m.tab)) (hin : m.In) :
    Calls Try.prog 16 #[.agg #[.int .i64 m.kind, .int .i64 m.from_, .int .i64 m.slo, .int .i64 m.shi, .int .i64 m.held, .int .i64 m.hops, .bool m.good, .bool m.ref, .int .i64 m.elo, .int .i64 m.ehi, .int .i64 m.pulse, .int .i64 m.time, .int .i64 m.num, .slice A m.tab.length cap]] w fun e w' => e = .returned (.tuple #[.string (str (sealed m.fr)), .int .i64 0]) ∧ St w0 F0 w' L G := by
  have h := Enc_any m A cap w0 w F0 L G hst hr hin
  rw [encM_ok hok] at h
  exact h
theorem Enc_no (m : M) (hno : ¬ m.Ok) (A : Option Addr) (cap : Nat) (w0 w : World) (F0 : List Nat) (L G : List Res) (hst : St w0 F0 w L G)
    (hr : Rds L G (.slice A m.tab.length cap) m.tab.length (lcs m.tab)) (hin : m.In) :
    Calls Try.prog 16 #[.agg #[.int .i64 m.kind, .int .i64 m.from_, .int .i64 m.slo, .int .i64 m.shi, .int .i64 m.held, .int .i64 m.hops, .bool m.good, .bool m.ref, .int .i64 m.elo, .int .i64 m.ehi, .int .i64 m.pulse, .int .i64 m.time, .int .i64 m.num, .slice A m.tab.length cap]] w fun e w' => e = .returned (.tuple #[.string ⟨#[]⟩, .int .i64 1]) ∧ St w0 F0 w' L G := by
  have h := Enc_any m A cap w0 w F0 L G hst hr hin
  rw [encM_no hno] at h
  exact h
def DP (x : M) (er : Int) (w0 : World) (F0 : List Nat) (L G : List Res) (e : Ending) (w' : World) : Prop :=
  ∃ A cap, e = .returned (.tuple #[.agg #[.int .i64 x.kind, .int .i64 x.from_, .int .i64 x.slo, .int .i64 x.shi, .int .i64 x.held, .int .i64 x.hops, .bool x.good, .bool x.ref, .int .i64 x.elo, .int .i64 x.ehi, .int .i64 x.pulse, .int .i64 x.time, .int .i64 x.num, .slice A x.tab.length cap], .int .i64 er]) ∧ St w0 F0 w' (rowR (.slice A x.tab.length cap) 45 2 x.tab.length (lcs x.tab) :: L) G
theorem DP_of {l : List UInt8} {x : M} {er : Int} (h : decR l = (x, er)) {w0 w' : World} {F0 : List Nat} {L G : List Res} {e : Ending} (hd : DPost l w0 F0 L G e w') : DP x er w0 F0 L G e w' := by
  unfold DPost at hd
  rw [h] at hd
  exact hd
theorem Dec_any (l : List UInt8) (x : M) (er : Int) (h : decR l = (x, er)) (w0 w : World) (F0 : List Nat) (L G : List Res) (hst : St w0 F0 w L G) (hl : l.length ≤ 1000000) :
    Calls Try.prog 18 #[.string (str l)] w (DP x er w0 F0 L G) := (Decode_any l w0 w F0 L G hst hl).mono fun _ _ hd => DP_of h hd
theorem rDec_any (l : List UInt8) (x : M) (er : Int) (h : decR l = (x, er)) (w0 w : World) (F0 : List Nat) (L G : List Res) (hst : St w0 F0 w L G) (hl : l.length ≤ 1000000) :
    Calls Try.prog 19 #[.string (str l)] w (DP x er w0 F0 L G) := (rDecode_any l w0 w F0 L G hst hl).mono fun _ _ hd => DP_of h hd
theorem sealed_fr_len (m : M) : (sealed m.fr).length = 80 + 16 * m.tab.length := by
  rw [sealed_len]
  have : m.fr.length = 76 + 16 * m.tab.length := fr_length ..
  omega
theorem Ok.len {m : M} (h : m.Ok) : m.tab.length ≤ 32 := h.2.1
theorem Dec_fr (m : M) (hok : m.Ok) (hin : m.In) (w0 w : World) (F0 : List Nat) (L G : List Res) (hst : St w0 F0 w L G) :
    Calls Try.prog 18 #[.string (str (sealed m.fr))] w (DP m 0 w0 F0 L G) :=
  Dec_any _ m 0 (decR_fr m hok hin) w0 w F0 L G hst (by rw [sealed_fr_len]; have := Ok.len hok; omega)
def M1 : M := ⟨1, 0, 0, 0, 0, 0, false, false, 0, 0, 0, 0, 0, []⟩
def M3 : M := ⟨3, 0, 0, 0, 0, 0, false, false, 0, 0, 0, 0, 0, []⟩
theorem M1_ok : M1.Ok := ⟨by unfold M1 HdOk Far; simp, by unfold M1; simp, fun k h => by simp [M1] at h⟩
theorem M3_no : ¬ M3.Ok := fun h => by
  have := h.1
  unfold M3 HdOk at this
  simp at this
theorem zero_in {k : Int} (hk : In64 k) : ∀ x ∈ [k, 0, 0, 0, 0, 0, 0, 0, 0, 0, 0], In64 x := by
  intro x hx
  simp only [List.mem_cons, List.not_mem_nil, or_false] at hx
  have h0 : In64 0 := by unfold In64; omega
  rcases hx with rfl | rfl | rfl | rfl | rfl | rfl | rfl | rfl | rfl | rfl | rfl
  · exact hk
  all_goals exact h0
theorem M1_in : M1.In := ⟨by simp [M1], by simp [M1], zero_in (by unfold In64; decide)⟩
theorem M3_in : M3.In := ⟨by simp [M3], by simp [M3], zero_in (by unfold In64; decide)⟩
theorem M0_in : M0.In := ⟨by simp [M0], by simp [M0], zero_in (by unfold In64; decide)⟩
theorem decR_cases (l : List UInt8) : (∃ er, er ≠ 0 ∧ decR l = (M0, er)) ∨ ∃ q, decR l = (rdM q, 0) ∧ opn l = some q ∧ FormOk q ∧ (rdM q).Ok := by
  by_cases h : 4096 < l.length
  · exact .inl ⟨3, by decide, decR_long h⟩
  · cases h2 : opn l with
    | none => exact .inl ⟨5, by decide, decR_sum h h2⟩
    | some q =>
      by_cases h3 : FormOk q
      · by_cases h4 : (rdM q).Ok
        · exact .inr ⟨q, decR_ok h h2 h3 h4, rfl, h3, h4⟩
        · exact .inl ⟨4, by decide, decR_bad h h2 h4⟩
      · exact .inl ⟨4, by decide, decR_form h h2 h3⟩
theorem decR_in {l : List UInt8} {x : M} {er : Int} (h : decR l = (x, er)) : x.In := by
  rcases decR_cases l with ⟨er', _, h2⟩ | ⟨q, h2, _⟩
  · rw [h] at h2; injection h2 with h2 _; rw [h2]; exact M0_in
  · rw [h] at h2; injection h2 with h2 _; rw [h2]; exact rdM_in q
theorem decR_zero {l : List UInt8} {x : M} (h : decR l = (x, 0)) : x.Ok ∧ sealed x.fr = l := by
  rcases decR_cases l with ⟨er', h1, h2⟩ | ⟨q, h2, h3, h4, h5⟩
  · rw [h] at h2; injection h2 with _ h2; exact absurd h2.symm h1
  · rw [h] at h2; injection h2 with h2 _; rw [h2, fr_rdM h4]; exact ⟨h5, (opn_some h3).symm⟩
theorem cf16 : ∀ args w, (callFunc 16 args).run Try.prog w = .ok (.enter 16 args) w := fun _ _ => by simp [go_sem]
theorem cf18 : ∀ args w, (callFunc 18 args).run Try.prog w = .ok (.enter 18 args) w := fun _ _ => by simp [go_sem]

set_option maxHeartbeats 2000000 in
theorem alive_any (w0 w : World) (F0 : List Nat) (L G : List Res) (hst : St w0 F0 w L G) :
    Calls Try.prog 15 #[] w fun e w' => e = .returned (.bool true) ∧ St w0 F0 w' L G := by
  have hsz : ((str (sealed M1.fr)).size : Int) = 80 := by rw [str_sz, sealed_fr_len]; rfl
  refine W.func Try.func15 rfl Try.ntmps15 rfl ?_
  refine W.seq rfl ?_
  refine W.region rfl ?_
  refine Ops.y rfl rfl rfl hst.ctx (Y.assignB rfl) ?_
  refine Ops.done rfl ?_
  refine W.seq rfl ?_
  refine W.region rfl ?_
  refine Ops.y rfl rfl rfl hst.ctx (bd28_0 rfl) ?_
  refine Ops.x rfl rfl rfl (X.call cf16 rfl ?_)
  have hst' := hst.learn (slR (.slice none 0 0) 0 (lcs [])) (Sl.nil _) (by simp [slR, lcs])
  clear hst; have hst := hst'; clear hst'
  refine use_call (Enc_ok M1 M1_ok none 0 _ _ _ _ _ hst (Rds.slG 0 rfl) M1_in) rfl ?_; clear hst; rintro e w1 ⟨rfl, hst⟩; refine ⟨_, rfl, ?_⟩
  refine Ops.y rfl rfl rfl hst.ctx (Y.moveU rfl) ?_
  refine Ops.y rfl rfl rfl hst.ctx (Y.extract rfl rfl) ?_
  refine Ops.y rfl rfl rfl hst.ctx (Y.extract rfl rfl) ?_
  refine Ops.y rfl rfl rfl hst.ctx (Y.assignT rfl) ?_
  refine Ops.y rfl rfl rfl hst.ctx (Y.assignI rfl) ?_
  refine Ops.done rfl ?_
  refine W.seq rfl ?_
  refine W.region rfl ?_
  refine Ops.y rfl rfl rfl hst.ctx (Y.moveT rfl) ?_
  refine Ops.x rfl rfl rfl (X.call cf18 rfl ?_)
  refine use_call (Dec_fr M1 M1_ok M1_in _ _ _ _ _ hst) rfl ?_; clear hst; rintro e w2 ⟨A2, c2, rfl, hst⟩; refine ⟨_, rfl, ?_⟩
  refine Ops.y rfl rfl rfl hst.ctx (Y.moveU rfl) ?_
  refine Ops.y rfl rfl rfl hst.ctx (Y.extract rfl rfl) ?_
  refine Ops.y rfl rfl rfl hst.ctx (Y.extract rfl rfl) ?_
  refine Ops.x rfl rfl rfl (X.allocA hst Try.zeroValue28 ?_)
  clear hst; intro p3 w3 hst
  refine Ops.x rfl rfl rfl (X.storeS hst 0 Try.sizeOf28 rfl rfl rfl rfl rfl (Nat.le_of_ble_eq_true rfl) rfl rfl ?_)
  clear hst; intro w2_6 hst
  try simp only [List.set_cons_zero, List.set_cons_succ, Nat.zero_add, Nat.reduceAdd, splice, List.take, List.drop, List.append_eq, List.nil_append, List.cons_append, List.length_cons, List.length_nil] at hst
  refine Ops.y rfl rfl rfl hst.ctx (Y.assignI rfl) ?_
  refine Ops.done rfl ?_
  refine W.seq rfl ?_
  refine W.region rfl ?_
  refine Ops.y rfl rfl rfl hst.ctx (bd28_0 rfl) ?_
  refine Ops.x rfl rfl rfl (X.call cf16 rfl ?_)
  refine use_call (Enc_no M3 M3_no none 0 _ _ _ _ _ hst (Rds.slG 0 rfl) M3_in) rfl ?_; clear hst; rintro e w3 ⟨rfl, hst⟩; replace hst := hst.forget; refine ⟨_, rfl, ?_⟩
  refine Ops.y rfl rfl rfl hst.ctx (Y.moveU rfl) ?_
  refine Ops.y rfl rfl rfl hst.ctx (Y.extract rfl rfl) ?_
  refine Ops.y rfl rfl rfl hst.ctx (Y.extract rfl rfl) ?_
  refine Ops.y rfl rfl rfl hst.ctx (Y.assignT rfl) ?_
  refine Ops.y rfl rfl rfl hst.ctx (Y.assignI rfl) ?_
  refine Ops.done rfl ?_
  refine W.seq rfl ?_
  refine W.region rfl ?_
  refine Ops.y rfl rfl rfl hst.ctx (Y.moveI rfl) ?_
  refine Ops.yb rfl rfl rfl hst.ctx (Y.eql rfl rfl) (fun b23 hb23 => ?_)
  refine Ops.y rfl rfl rfl hst.ctx (Y.moveB rfl) ?_
  cases b23
  · replace hb23 := of_decide_eq_false hb23.symm
    exact absurd rfl hb23
  · replace hb23 := of_decide_eq_true hb23.symm
    refine Ops.y rfl rfl rfl hst.ctx (Y.moveT rfl) ?_
    refine Ops.y rfl rfl rfl hst.ctx (Y.lenT Try.underlying9 rfl) ?_
    refine Ops.yb rfl rfl rfl hst.ctx (Y.eql rfl rfl) (fun b27 hb27 => ?_)
    refine Ops.y rfl rfl rfl hst.ctx (Y.pick (.bool _) rfl rfl) ?_
    refine Ops.y rfl rfl rfl hst.ctx (Y.moveB rfl) ?_
    cases b27
    · replace hb27 := of_decide_eq_false hb27.symm
      exact absurd hsz hb27
    · replace hb27 := of_decide_eq_true hb27.symm
      refine Ops.y rfl rfl rfl hst.ctx (Y.moveI rfl) ?_
      refine Ops.yb rfl rfl rfl hst.ctx (Y.eql rfl rfl) (fun b31 hb31 => ?_)
      refine Ops.y rfl rfl rfl hst.ctx (Y.pick (.bool _) rfl rfl) ?_
      refine Ops.y rfl rfl rfl hst.ctx (Y.moveB rfl) ?_
      cases b31
      · replace hb31 := of_decide_eq_false hb31.symm
        exact absurd rfl hb31
      · replace hb31 := of_decide_eq_true hb31.symm
        first
        | refine Ops.y rfl rfl rfl hst.ctx (Y.fieldAddr fa28_0 rfl) ?_
        | refine Ops.y rfl rfl rfl hst.ctx (Y.fieldAddrP fa28_0 rfl) ?_
        refine Ops.y rfl rfl rfl hst.ctx (Y.load 0 Try.isAgg3 rfl rfl rfl) ?_
        refine Ops.yb rfl rfl rfl hst.ctx (Y.eql rfl rfl) (fun b36 hb36 => ?_)
        refine Ops.y rfl rfl rfl hst.ctx (Y.pick (.bool _) rfl rfl) ?_
        refine Ops.y rfl rfl rfl hst.ctx (Y.moveB rfl) ?_
        cases b36
        · replace hb36 := of_decide_eq_false hb36.symm
          exact absurd rfl hb36
        · replace hb36 := of_decide_eq_true hb36.symm
          refine Ops.y rfl rfl rfl hst.ctx (Y.moveI rfl) ?_
          refine Ops.yb rfl rfl rfl hst.ctx (Y.eql rfl rfl) (fun b40 hb40 => ?_)
          refine Ops.y rfl rfl rfl hst.ctx (Y.pick (.bool _) rfl rfl) ?_
          refine Ops.y rfl rfl rfl hst.ctx (Y.assignB rfl) ?_
          refine Ops.done rfl ?_
          refine W.ret rfl ?_
          cases b40
          · replace hb40 := of_decide_eq_false hb40.symm
            exact absurd rfl hb40
          · replace hb40 := of_decide_eq_true hb40.symm
            refine ⟨_, Rslt.one Try.results15 rfl, ?_⟩
            exact ⟨rfl, hst.drop.drop⟩
end Go.Proofs.Ytkbkgpedpaodlaa.W
