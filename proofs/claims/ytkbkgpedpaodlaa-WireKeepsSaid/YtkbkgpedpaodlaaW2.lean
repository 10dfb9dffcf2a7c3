/- The walks of WireBack and WireSizes. -/
import Derived.Test.YtkbkgpedpaodlaaW1
set_option linter.unusedVariables false
set_option linter.unusedSimpArgs false
namespace Go.Proofs.Ytkbkgpedpaodlaa.W
open Go.RowKit Go.Proofs.Ytkbkgpedpaodlaa.K Go.Proofs.Ytkbkgpedpaodlaa.CM


theorem Enc_eq (m : M) (t : ByteArray) (er : Int) (h : encM m = (t, er)) (A : Option Addr) (cap : Nat) (w0 w : World) (F0 : List Nat) (L G : List Res) (hst : St w0 F0 w L G)
    (hr : Rds L G (.slice A m.tab.length cap) m.tab.length (lcs m.tab)) (hin : m.In) :
    Calls Try.prog 16 #[.agg #[.int .i64 m.kind, .int .i64 m.from_, .int .i64 m.slo, .int .i64 m.shi, .int .i64 m.held, .int .i64 m.hops, .bool m.good, .bool m.ref, .int .i64 m.elo, .int .i64 m.ehi, .int .i64 m.pulse, .int .i64 m.time, .int .i64 m.num, .slice A m.tab.length cap]] w fun e w' => e = .returned (.tuple #[.string t, .int .i64 er]) ∧ St w0 F0 w' L G := by
  have h2 := Enc_any m A cap w0 w F0 L G hst hr hin
  rw [h] at h2
  exact h2
theorem enc_zero {m : M} {t : ByteArray} {er : Int} (h : encM m = (t, er)) (h0 : er = 0) : m.Ok ∧ t = str (sealed m.fr) := by
  subst h0
  have h1 : m.Ok := encM_iff.1 (by rw [h])
  rw [encM_ok h1] at h
  injection h with h _
  exact ⟨h1, h.symm⟩
theorem Dec_enc (m : M) (t : ByteArray) (er : Int) (h : encM m = (t, er)) (h0 : er = 0) (hin : m.In) (w0 w : World) (F0 : List Nat) (L G : List Res) (hst : St w0 F0 w L G) :
    Calls Try.prog 18 #[.string t] w (DP m 0 w0 F0 L G) := by
  obtain ⟨h1, rfl⟩ := enc_zero h h0
  exact Dec_fr m h1 hin w0 w F0 L G hst
theorem fr_inj {x y : M} (hx : x.Ok) (hy : y.Ok) (ix : x.In) (iy : y.In) (h : sealed x.fr = sealed y.fr) : x = y := by
  have h1 := decR_fr x hx ix
  rw [h, decR_fr y hy iy] at h1
  injection h1 with h1 _
  exact h1.symm
set_option maxHeartbeats 1000000 in
theorem WireBack_walk (m : M) (A : Option Addr) (cap : Nat) (s : ByteArray) (w : World) (hs : Sl w (.slice A m.tab.length cap) m.tab.length (lcs m.tab)) (hin : m.In) :
    Calls Try.prog 6 #[.agg #[.int .i64 m.kind, .int .i64 m.from_, .int .i64 m.slo, .int .i64 m.shi, .int .i64 m.held, .int .i64 m.hops, .bool m.good, .bool m.ref, .int .i64 m.elo, .int .i64 m.ehi, .int .i64 m.pulse, .int .i64 m.time, .int .i64 m.num, .slice A m.tab.length cap], .string s] w fun e w' => e = .returned (.bool true) ∧ Below w.heap.size w w' := by
  have hst := (St.start w).arg hs
  have hr : Rds [] [slR (.slice A m.tab.length cap) m.tab.length (lcs m.tab)] (.slice A m.tab.length cap) m.tab.length (lcs m.tab) := Rds.slG 0 rfl
  obtain ⟨l, rfl⟩ : ∃ l, s = str l := ⟨sb s, (str_sb s).symm⟩
  obtain ⟨⟨x, er⟩, hx⟩ : ∃ r, decR l = r := ⟨_, rfl⟩
  obtain ⟨⟨t, e0⟩, hE⟩ : ∃ r, encM m = r := ⟨_, rfl⟩
  have hxin := decR_in hx
  have hsz := str_sz l
  refine W.func Try.func6 rfl Try.ntmps6 rfl ?_
  refine W.seq rfl ?_
  refine W.region rfl ?_
  refine Ops.x rfl rfl rfl (X.boxA hst rfl ?_)
  clear hst; intro p2 w2 hst
  refine Ops.y rfl rfl rfl hst.ctx (Y.assignB rfl) ?_
  refine Ops.done rfl ?_
  refine W.seq rfl ?_
  refine W.seq rfl ?_
  refine W.region rfl ?_
  refine Ops.x rfl rfl rfl (X.call cf15 rfl ?_)
  refine use_call (alive_any _ _ _ _ _ hst) rfl ?_; clear hst; rintro e w1 ⟨rfl, hst⟩; refine ⟨_, rfl, ?_⟩
  refine Ops.y rfl rfl rfl hst.ctx (Y.not rfl) ?_
  refine Ops.done rfl ?_
  refine W.condF rfl rfl ?_
  refine W.skip rfl ?_
  refine W.seq rfl ?_
  refine W.seq rfl ?_
  refine W.region rfl ?_
  first
  | refine Ops.y rfl rfl rfl hst.ctx (Y.loadA 0 Try.isAgg28 Try.sizeOf28 rfl rfl rfl rfl) ?_
  | refine Ops.y rfl rfl rfl hst.ctx (Y.loadA 1 Try.isAgg28 Try.sizeOf28 rfl rfl rfl rfl) ?_
  | refine Ops.y rfl rfl rfl hst.ctx (Y.loadA 2 Try.isAgg28 Try.sizeOf28 rfl rfl rfl rfl) ?_
  refine Ops.x rfl rfl rfl (X.call cf11 rfl ?_)
  refine use_call (long_b m.kind m.from_ m.slo m.shi m.held m.hops m.good m.ref m.elo m.ehi m.pulse m.time m.num m.tab _ _ _ _ _ _ _ hst) rfl ?_; clear hst; rintro e w1 ⟨b16, rfl, hb16, hst⟩; refine ⟨_, rfl, ?_⟩
  refine Ops.y rfl rfl rfl hst.ctx (Y.moveB rfl) ?_
  cases b16
  · replace hb16 := of_decide_eq_false hb16.symm
    refine Ops.y rfl rfl rfl hst.ctx (Y.moveT rfl) ?_
    refine Ops.y rfl rfl rfl hst.ctx (Y.lenT Try.underlying9 rfl) ?_
    refine Ops.yb rfl rfl rfl hst.ctx (Y.gtr rfl rfl) (fun b20 hb20 => ?_)
    refine Ops.y rfl rfl rfl hst.ctx (Y.pick (.bool _) rfl rfl) ?_
    refine Ops.done rfl ?_
    cases b20
    · replace hb20 := of_decide_eq_false hb20.symm
      refine W.condF rfl rfl ?_
      refine W.skip rfl ?_
      refine W.seq rfl ?_
      refine W.region rfl ?_
      first
      | refine Ops.y rfl rfl rfl hst.ctx (Y.loadA 0 Try.isAgg28 Try.sizeOf28 rfl rfl rfl rfl) ?_
      | refine Ops.y rfl rfl rfl hst.ctx (Y.loadA 1 Try.isAgg28 Try.sizeOf28 rfl rfl rfl rfl) ?_
      | refine Ops.y rfl rfl rfl hst.ctx (Y.loadA 2 Try.isAgg28 Try.sizeOf28 rfl rfl rfl rfl) ?_
      refine Ops.x rfl rfl rfl (X.call cf16 rfl ?_)
      refine use_call (Enc_eq m t e0 hE _ _ _ _ _ _ _ hst (hr.cons _) hin) rfl ?_; clear hst; rintro e w1 ⟨rfl, hst⟩; refine ⟨_, rfl, ?_⟩
      refine Ops.y rfl rfl rfl hst.ctx (Y.moveU rfl) ?_
      refine Ops.y rfl rfl rfl hst.ctx (Y.extract rfl rfl) ?_
      refine Ops.y rfl rfl rfl hst.ctx (Y.extract rfl rfl) ?_
      refine Ops.y rfl rfl rfl hst.ctx (Y.assignT rfl) ?_
      refine Ops.y rfl rfl rfl hst.ctx (Y.assignI rfl) ?_
      refine Ops.done rfl ?_
      refine W.seq rfl ?_
      refine W.seq rfl ?_
      refine W.region rfl ?_
      refine Ops.y rfl rfl rfl hst.ctx (Y.moveI rfl) ?_
      refine Ops.yb rfl rfl rfl hst.ctx (Y.eql rfl rfl) (fun b28 hb28 => ?_)
      refine Ops.done rfl ?_
      refine W.cut [(1, .string _)] (fun _ : Unit => []) (fun _ w' => St w [] w' [cellsR p2 [.int .i64 m.kind, .int .i64 m.from_, .int .i64 m.slo, .int .i64 m.shi, .int .i64 m.held, .int .i64 m.hops, .bool m.good, .bool m.ref, .int .i64 m.elo, .int .i64 m.ehi, .int .i64 m.pulse, .int .i64 m.time, .int .i64 m.num, .slice A m.tab.length cap] 28] [slR (.slice A m.tab.length cap) m.tab.length (lcs m.tab)]) ⟨rfl, trivial⟩ ?_ ?_
      rotate_left
      · clear hst; rintro _ j w2 hst
        refine W.seq rfl ?_
        refine W.region rfl ?_
        refine Ops.y rfl rfl rfl hst.ctx (Y.moveT rfl) ?_
        refine Ops.x rfl rfl rfl (X.call cf18 rfl ?_)
        refine use_call (Dec_any l x er hx _ _ _ _ _ hst (by omega)) rfl ?_; clear hst; rintro e w2 ⟨A44, c44, rfl, hst⟩; refine ⟨_, rfl, ?_⟩
        refine Ops.y rfl rfl rfl hst.ctx (Y.moveU rfl) ?_
        refine Ops.y rfl rfl rfl hst.ctx (Y.extract rfl rfl) ?_
        refine Ops.y rfl rfl rfl hst.ctx (Y.extract rfl rfl) ?_
        refine Ops.x rfl rfl rfl (X.allocA hst Try.zeroValue28 ?_)
        clear hst; intro p9 w9 hst
        first
        | refine Ops.x rfl rfl rfl (X.storeS hst 0 Try.sizeOf28 rfl rfl rfl rfl rfl (Nat.le_of_ble_eq_true rfl) rfl rfl ?_)
        | refine Ops.x rfl rfl rfl (X.storeS hst 1 Try.sizeOf28 rfl rfl rfl rfl rfl (Nat.le_of_ble_eq_true rfl) rfl rfl ?_)
        | refine Ops.x rfl rfl rfl (X.storeS hst 2 Try.sizeOf28 rfl rfl rfl rfl rfl (Nat.le_of_ble_eq_true rfl) rfl rfl ?_)
        clear hst; intro w10_6 hst
        try simp only [List.set_cons_zero, List.set_cons_succ, Nat.zero_add, Nat.reduceAdd, splice, List.take, List.drop, List.append_eq, List.nil_append, List.cons_append, List.length_cons, List.length_nil] at hst
        refine Ops.y rfl rfl rfl hst.ctx (Y.assignI rfl) ?_
        refine Ops.done rfl ?_
        refine W.seq rfl ?_
        refine W.seq rfl ?_
        refine W.region rfl ?_
        refine Ops.y rfl rfl rfl hst.ctx (Y.moveI rfl) ?_
        refine Ops.yb rfl rfl rfl hst.ctx (Y.neq rfl rfl) (fun b48 hb48 => ?_)
        refine Ops.done rfl ?_
        cases b48
        · replace hb48 := of_decide_eq_false hb48.symm
          refine W.condF rfl rfl ?_
          refine W.skip rfl ?_
          refine W.seq rfl ?_
          have hz : er = 0 := by omega
          obtain ⟨hxo, hxf⟩ := decR_zero (hx.trans (by rw [hz]))
          have hxe : encM x = (str l, 0) := by rw [encM_ok hxo, hxf]
          refine W.region rfl ?_
          first
          | refine Ops.y rfl rfl rfl hst.ctx (Y.loadA 0 Try.isAgg28 Try.sizeOf28 rfl rfl rfl rfl) ?_
          | refine Ops.y rfl rfl rfl hst.ctx (Y.loadA 1 Try.isAgg28 Try.sizeOf28 rfl rfl rfl rfl) ?_
          | refine Ops.y rfl rfl rfl hst.ctx (Y.loadA 2 Try.isAgg28 Try.sizeOf28 rfl rfl rfl rfl) ?_
          refine Ops.x rfl rfl rfl (X.call cf16 rfl ?_)
          refine use_call (Enc_eq x (str l) 0 hxe _ _ _ _ _ _ _ hst (Rds.rowL 1 rfl) hxin) rfl ?_; clear hst; rintro e w1 ⟨rfl, hst⟩; refine ⟨_, rfl, ?_⟩
          refine Ops.y rfl rfl rfl hst.ctx (Y.moveU rfl) ?_
          refine Ops.y rfl rfl rfl hst.ctx (Y.extract rfl rfl) ?_
          refine Ops.y rfl rfl rfl hst.ctx (Y.extract rfl rfl) ?_
          refine Ops.y rfl rfl rfl hst.ctx (Y.assignT rfl) ?_
          refine Ops.y rfl rfl rfl hst.ctx (Y.assignI rfl) ?_
          refine Ops.done rfl ?_
          refine W.seq rfl ?_
          refine W.region rfl ?_
          refine Ops.y rfl rfl rfl hst.ctx (Y.moveI rfl) ?_
          refine Ops.yb rfl rfl rfl hst.ctx (Y.eql rfl rfl) (fun b55 hb55 => ?_)
          refine Ops.y rfl rfl rfl hst.ctx (Y.moveB rfl) ?_
          cases b55
          · replace hb55 := of_decide_eq_false hb55.symm
            exact absurd rfl hb55
          · replace hb55 := of_decide_eq_true hb55.symm
            refine Ops.y rfl rfl rfl hst.ctx (Y.moveT rfl) ?_
            refine Ops.y rfl rfl rfl hst.ctx (Y.moveT rfl) ?_
            refine Ops.yb rfl rfl rfl hst.ctx (Y.eqT rfl rfl) (fun b59 hb59 => ?_)
            refine Ops.y rfl rfl rfl hst.ctx (Y.pick (.bool _) rfl rfl) ?_
            refine Ops.y rfl rfl rfl hst.ctx (Y.assignB rfl) ?_
            refine Ops.done rfl ?_
            refine W.ret rfl ?_
            cases b59
            · replace hb59 := of_decide_eq_false hb59.symm
              exact absurd rfl hb59
            · replace hb59 := of_decide_eq_true hb59.symm
              refine ⟨_, Rslt.one Try.results6 rfl, ?_⟩
              exact ⟨rfl, hst.drop.drop.drop.below⟩
        · replace hb48 := of_decide_eq_true hb48.symm
          refine W.condT rfl rfl ?_
          refine W.seq rfl ?_
          refine W.region rfl ?_
          refine Ops.y rfl rfl rfl hst.ctx (Y.assignB rfl) ?_
          refine Ops.done rfl ?_
          refine W.ret rfl ?_
          refine ⟨_, Rslt.one Try.results6 rfl, ?_⟩
          exact ⟨rfl, hst.drop.drop.drop.below⟩
      cases b28
      · replace hb28 := of_decide_eq_false hb28.symm
        refine W.condF rfl rfl ?_
        refine W.skip rfl ?_
        exact ⟨(), trivial, ⟨rfl, trivial⟩, hst⟩
      · replace hb28 := of_decide_eq_true hb28.symm
        refine W.condT rfl rfl ?_
        refine W.seq rfl ?_
        refine W.region rfl ?_
        refine Ops.y rfl rfl rfl hst.ctx (Y.moveT rfl) ?_
        refine Ops.x rfl rfl rfl (X.call cf18 rfl ?_)
        refine use_call (Dec_enc m t e0 hE hb28 hin _ _ _ _ _ hst) rfl ?_; clear hst; rintro e w2 ⟨A31, c31, rfl, hst⟩; refine ⟨_, rfl, ?_⟩
        refine Ops.y rfl rfl rfl hst.ctx (Y.moveU rfl) ?_
        refine Ops.y rfl rfl rfl hst.ctx (Y.extract rfl rfl) ?_
        refine Ops.y rfl rfl rfl hst.ctx (Y.extract rfl rfl) ?_
        refine Ops.x rfl rfl rfl (X.allocA hst Try.zeroValue28 ?_)
        clear hst; intro p7 w7 hst
        first
        | refine Ops.x rfl rfl rfl (X.storeS hst 0 Try.sizeOf28 rfl rfl rfl rfl rfl (Nat.le_of_ble_eq_true rfl) rfl rfl ?_)
        | refine Ops.x rfl rfl rfl (X.storeS hst 1 Try.sizeOf28 rfl rfl rfl rfl rfl (Nat.le_of_ble_eq_true rfl) rfl rfl ?_)
        | refine Ops.x rfl rfl rfl (X.storeS hst 2 Try.sizeOf28 rfl rfl rfl rfl rfl (Nat.le_of_ble_eq_true rfl) rfl rfl ?_)
        | refine Ops.x rfl rfl rfl (X.storeS hst 3 Try.sizeOf28 rfl rfl rfl rfl rfl (Nat.le_of_ble_eq_true rfl) rfl rfl ?_)
        clear hst; intro w7_6 hst
        try simp only [List.set_cons_zero, List.set_cons_succ, Nat.zero_add, Nat.reduceAdd, splice, List.take, List.drop, List.append_eq, List.nil_append, List.cons_append, List.length_cons, List.length_nil] at hst
        refine Ops.y rfl rfl rfl hst.ctx (Y.assignI rfl) ?_
        refine Ops.done rfl ?_
        refine W.seq rfl ?_
        refine W.region rfl ?_
        refine Ops.y rfl rfl rfl hst.ctx (Y.moveI rfl) ?_
        refine Ops.yb rfl rfl rfl hst.ctx (Y.neq rfl rfl) (fun b35 hb35 => ?_)
        refine Ops.y rfl rfl rfl hst.ctx (Y.moveB rfl) ?_
        cases b35
        · replace hb35 := of_decide_eq_false hb35.symm
          first
          | refine Ops.y rfl rfl rfl hst.ctx (Y.loadA 0 Try.isAgg28 Try.sizeOf28 rfl rfl rfl rfl) ?_
          | refine Ops.y rfl rfl rfl hst.ctx (Y.loadA 1 Try.isAgg28 Try.sizeOf28 rfl rfl rfl rfl) ?_
          | refine Ops.y rfl rfl rfl hst.ctx (Y.loadA 2 Try.isAgg28 Try.sizeOf28 rfl rfl rfl rfl) ?_
          | refine Ops.y rfl rfl rfl hst.ctx (Y.loadA 3 Try.isAgg28 Try.sizeOf28 rfl rfl rfl rfl) ?_
          first
          | refine Ops.y rfl rfl rfl hst.ctx (Y.loadA 0 Try.isAgg28 Try.sizeOf28 rfl rfl rfl rfl) ?_
          | refine Ops.y rfl rfl rfl hst.ctx (Y.loadA 1 Try.isAgg28 Try.sizeOf28 rfl rfl rfl rfl) ?_
          | refine Ops.y rfl rfl rfl hst.ctx (Y.loadA 2 Try.isAgg28 Try.sizeOf28 rfl rfl rfl rfl) ?_
          | refine Ops.y rfl rfl rfl hst.ctx (Y.loadA 3 Try.isAgg28 Try.sizeOf28 rfl rfl rfl rfl) ?_
          refine Ops.x rfl rfl rfl (X.call cf20 rfl ?_)
          refine use_call (same_any m m hin.1 _ _ _ _ _ _ _ _ _ hst (Rds.rowL 1 rfl) (((hr.cons _).cons _).cons _)) rfl ?_; clear hst; rintro e w1 ⟨b39, rfl, hb39, hst⟩; refine ⟨_, rfl, ?_⟩
          cases b39
          · replace hb39 := of_decide_eq_false hb39.symm
            exact absurd (same_iff.2 rfl) hb39
          · replace hb39 := of_decide_eq_true hb39.symm
            refine Ops.y rfl rfl rfl hst.ctx (Y.not rfl) ?_
            refine Ops.y rfl rfl rfl hst.ctx (Y.pick (.bool _) rfl rfl) ?_
            refine Ops.done rfl ?_
            refine W.condF rfl rfl ?_
            refine W.skip rfl ?_
            exact ⟨(), trivial, ⟨rfl, trivial⟩, hst.drop.drop⟩
        · replace hb35 := of_decide_eq_true hb35.symm
          exact absurd rfl hb35
    · replace hb20 := of_decide_eq_true hb20.symm
      refine W.condT rfl rfl ?_
      refine W.seq rfl ?_
      refine W.region rfl ?_
      refine Ops.y rfl rfl rfl hst.ctx (Y.assignB rfl) ?_
      refine Ops.done rfl ?_
      refine W.ret rfl ?_
      refine ⟨_, Rslt.one Try.results6 rfl, ?_⟩
      exact ⟨rfl, hst.drop.below⟩
  · replace hb16 := of_decide_eq_true hb16.symm
    refine Ops.no rfl rfl rfl ?_
    refine Ops.no rfl rfl rfl ?_
    refine Ops.no rfl rfl rfl ?_
    refine Ops.y rfl rfl rfl hst.ctx (Y.pick (.bool _) rfl rfl) ?_
    refine Ops.done rfl ?_
    refine W.condT rfl rfl ?_
    refine W.seq rfl ?_
    refine W.region rfl ?_
    refine Ops.y rfl rfl rfl hst.ctx (Y.assignB rfl) ?_
    refine Ops.done rfl ?_
    refine W.ret rfl ?_
    refine ⟨_, Rslt.one Try.results6 rfl, ?_⟩
    exact ⟨rfl, hst.drop.below⟩

set_option maxHeartbeats 1000000 in
theorem WireSizes_walk (x y : M) (A B : Option Addr) (ca cb : Nat) (w : World) (hs : Sl w (.slice A x.tab.length ca) x.tab.length (lcs x.tab)) (ht : Sl w (.slice B y.tab.length cb) y.tab.length (lcs y.tab)) (hxin : x.In) (hyin : y.In) :
    Calls Try.prog 9 #[.agg #[.int .i64 x.kind, .int .i64 x.from_, .int .i64 x.slo, .int .i64 x.shi, .int .i64 x.held, .int .i64 x.hops, .bool x.good, .bool x.ref, .int .i64 x.elo, .int .i64 x.ehi, .int .i64 x.pulse, .int .i64 x.time, .int .i64 x.num, .slice A x.tab.length ca], .agg #[.int .i64 y.kind, .int .i64 y.from_, .int .i64 y.slo, .int .i64 y.shi, .int .i64 y.held, .int .i64 y.hops, .bool y.good, .bool y.ref, .int .i64 y.elo, .int .i64 y.ehi, .int .i64 y.pulse, .int .i64 y.time, .int .i64 y.num, .slice B y.tab.length cb]] w fun e w' => e = .returned (.bool true) ∧ Below w.heap.size w w' := by
  have hst := ((St.start w).arg ht).arg hs
  have hrx : ∀ {L}, Rds L [slR (.slice A x.tab.length ca) x.tab.length (lcs x.tab), slR (.slice B y.tab.length cb) y.tab.length (lcs y.tab)] (.slice A x.tab.length ca) x.tab.length (lcs x.tab) := Rds.slG 0 rfl
  have hry : ∀ {L}, Rds L [slR (.slice A x.tab.length ca) x.tab.length (lcs x.tab), slR (.slice B y.tab.length cb) y.tab.length (lcs y.tab)] (.slice B y.tab.length cb) y.tab.length (lcs y.tab) := Rds.slG 1 rfl
  obtain ⟨⟨s, e0⟩, hE⟩ : ∃ r, encM x = r := ⟨_, rfl⟩
  obtain ⟨⟨t, f0⟩, hF⟩ : ∃ r, encM y = r := ⟨_, rfl⟩
  refine W.func Try.func9 rfl Try.ntmps9 rfl ?_
  refine W.seq rfl ?_
  refine W.region rfl ?_
  refine Ops.x rfl rfl rfl (X.boxA hst rfl ?_)
  clear hst; intro p2 w2 hst
  refine Ops.x rfl rfl rfl (X.boxA hst rfl ?_)
  clear hst; intro p3 w3 hst
  refine Ops.y rfl rfl rfl hst.ctx (Y.assignB rfl) ?_
  refine Ops.done rfl ?_
  refine W.seq rfl ?_
  refine W.seq rfl ?_
  refine W.region rfl ?_
  refine Ops.x rfl rfl rfl (X.call cf15 rfl ?_)
  refine use_call (alive_any _ _ _ _ _ hst) rfl ?_; clear hst; rintro e w1 ⟨rfl, hst⟩; refine ⟨_, rfl, ?_⟩
  refine Ops.y rfl rfl rfl hst.ctx (Y.not rfl) ?_
  refine Ops.done rfl ?_
  refine W.condF rfl rfl ?_
  refine W.skip rfl ?_
  refine W.seq rfl ?_
  refine W.seq rfl ?_
  refine W.region rfl ?_
  first
  | refine Ops.y rfl rfl rfl hst.ctx (Y.fieldAddr fa28_10 rfl) ?_
  | refine Ops.y rfl rfl rfl hst.ctx (Y.fieldAddrP fa28_10 rfl) ?_
  first
  | refine Ops.y rfl rfl rfl hst.ctx (Y.load 0 Try.isAgg26 rfl rfl rfl) ?_
  | refine Ops.y rfl rfl rfl hst.ctx (Y.load 1 Try.isAgg26 rfl rfl rfl) ?_
  refine Ops.y rfl rfl rfl hst.ctx (Y.lenS Try.underlying26 rfl) ?_
  refine Ops.yb rfl rfl rfl hst.ctx (Y.gtr rfl rfl) (fun b14 hb14 => ?_)
  refine Ops.y rfl rfl rfl hst.ctx (Y.moveB rfl) ?_
  cases b14
  · replace hb14 := of_decide_eq_false hb14.symm
    first
    | refine Ops.y rfl rfl rfl hst.ctx (Y.fieldAddr fa28_10 rfl) ?_
    | refine Ops.y rfl rfl rfl hst.ctx (Y.fieldAddrP fa28_10 rfl) ?_
    first
    | refine Ops.y rfl rfl rfl hst.ctx (Y.load 0 Try.isAgg26 rfl rfl rfl) ?_
    | refine Ops.y rfl rfl rfl hst.ctx (Y.load 1 Try.isAgg26 rfl rfl rfl) ?_
    refine Ops.y rfl rfl rfl hst.ctx (Y.lenS Try.underlying26 rfl) ?_
    refine Ops.yb rfl rfl rfl hst.ctx (Y.gtr rfl rfl) (fun b19 hb19 => ?_)
    refine Ops.y rfl rfl rfl hst.ctx (Y.pick (.bool _) rfl rfl) ?_
    refine Ops.done rfl ?_
    cases b19
    · replace hb19 := of_decide_eq_false hb19.symm
      refine W.condF rfl rfl ?_
      refine W.skip rfl ?_
      refine W.seq rfl ?_
      refine W.region rfl ?_
      first
      | refine Ops.y rfl rfl rfl hst.ctx (Y.loadA 0 Try.isAgg28 Try.sizeOf28 rfl rfl rfl rfl) ?_
      | refine Ops.y rfl rfl rfl hst.ctx (Y.loadA 1 Try.isAgg28 Try.sizeOf28 rfl rfl rfl rfl) ?_
      refine Ops.x rfl rfl rfl (X.call cf16 rfl ?_)
      refine use_call (Enc_eq x s e0 hE _ _ _ _ _ _ _ hst hrx hxin) rfl ?_; clear hst; rintro e w1 ⟨rfl, hst⟩; refine ⟨_, rfl, ?_⟩
      refine Ops.y rfl rfl rfl hst.ctx (Y.moveU rfl) ?_
      refine Ops.y rfl rfl rfl hst.ctx (Y.extract rfl rfl) ?_
      refine Ops.y rfl rfl rfl hst.ctx (Y.extract rfl rfl) ?_
      refine Ops.y rfl rfl rfl hst.ctx (Y.assignT rfl) ?_
      refine Ops.y rfl rfl rfl hst.ctx (Y.assignI rfl) ?_
      refine Ops.done rfl ?_
      refine W.seq rfl ?_
      refine W.region rfl ?_
      first
      | refine Ops.y rfl rfl rfl hst.ctx (Y.loadA 0 Try.isAgg28 Try.sizeOf28 rfl rfl rfl rfl) ?_
      | refine Ops.y rfl rfl rfl hst.ctx (Y.loadA 1 Try.isAgg28 Try.sizeOf28 rfl rfl rfl rfl) ?_
      refine Ops.x rfl rfl rfl (X.call cf16 rfl ?_)
      refine use_call (Enc_eq y t f0 hF _ _ _ _ _ _ _ hst hry hyin) rfl ?_; clear hst; rintro e w1 ⟨rfl, hst⟩; refine ⟨_, rfl, ?_⟩
      refine Ops.y rfl rfl rfl hst.ctx (Y.moveU rfl) ?_
      refine Ops.y rfl rfl rfl hst.ctx (Y.extract rfl rfl) ?_
      refine Ops.y rfl rfl rfl hst.ctx (Y.extract rfl rfl) ?_
      refine Ops.y rfl rfl rfl hst.ctx (Y.assignT rfl) ?_
      refine Ops.y rfl rfl rfl hst.ctx (Y.assignI rfl) ?_
      refine Ops.done rfl ?_
      refine W.seq rfl ?_
      refine W.seq rfl ?_
      refine W.region rfl ?_
      refine Ops.y rfl rfl rfl hst.ctx (Y.moveI rfl) ?_
      refine Ops.yb rfl rfl rfl hst.ctx (Y.neq rfl rfl) (fun b32 hb32 => ?_)
      refine Ops.y rfl rfl rfl hst.ctx (Y.moveB rfl) ?_
      cases b32
      · replace hb32 := of_decide_eq_false hb32.symm
        refine Ops.y rfl rfl rfl hst.ctx (Y.moveI rfl) ?_
        refine Ops.yb rfl rfl rfl hst.ctx (Y.neq rfl rfl) (fun b35 hb35 => ?_)
        refine Ops.y rfl rfl rfl hst.ctx (Y.pick (.bool _) rfl rfl) ?_
        refine Ops.done rfl ?_
        cases b35
        · replace hb35 := of_decide_eq_false hb35.symm
          refine W.condF rfl rfl ?_
          refine W.skip rfl ?_
          refine W.seq rfl ?_
          obtain ⟨hxo, hxs⟩ := enc_zero hE (by omega)
          obtain ⟨hyo, hys⟩ := enc_zero hF (by omega)
          have hsz : s.size = 80 + 16 * x.tab.length := by rw [hxs, str_sz, sealed_fr_len]
          have hx32 := Ok.len hxo
          have hsame : (s = t) ↔ SameP x y := by
            rw [hxs, hys, str_inj, same_iff]
            exact ⟨fun h => fr_inj hxo hyo hxin hyin h, fun h => by rw [h]⟩
          refine W.region rfl ?_
          refine Ops.y rfl rfl rfl hst.ctx (Y.moveT rfl) ?_
          refine Ops.y rfl rfl rfl hst.ctx (Y.lenT Try.underlying9 rfl) ?_
          first
          | refine Ops.y rfl rfl rfl hst.ctx (Y.fieldAddr fa28_10 rfl) ?_
          | refine Ops.y rfl rfl rfl hst.ctx (Y.fieldAddrP fa28_10 rfl) ?_
          first
          | refine Ops.y rfl rfl rfl hst.ctx (Y.load 0 Try.isAgg26 rfl rfl rfl) ?_
          | refine Ops.y rfl rfl rfl hst.ctx (Y.load 1 Try.isAgg26 rfl rfl rfl) ?_
          refine Ops.y rfl rfl rfl hst.ctx (Y.lenS Try.underlying26 rfl) ?_
          refine Ops.y rfl rfl rfl hst.ctx (Y.mulI rfl rfl (by omega)) ?_
          refine Ops.y rfl rfl rfl hst.ctx (Y.addI rfl rfl (by omega)) ?_
          refine Ops.yb rfl rfl rfl hst.ctx (Y.eql rfl rfl) (fun b44 hb44 => ?_)
          refine Ops.y rfl rfl rfl hst.ctx (Y.moveB rfl) ?_
          cases b44
          · replace hb44 := of_decide_eq_false hb44.symm
            exact absurd (by omega) hb44
          · replace hb44 := of_decide_eq_true hb44.symm
            refine Ops.y rfl rfl rfl hst.ctx (Y.moveT rfl) ?_
            refine Ops.y rfl rfl rfl hst.ctx (Y.lenT Try.underlying9 rfl) ?_
            refine Ops.yb rfl rfl rfl hst.ctx (Y.leq rfl rfl) (fun b48 hb48 => ?_)
            refine Ops.y rfl rfl rfl hst.ctx (Y.pick (.bool _) rfl rfl) ?_
            refine Ops.y rfl rfl rfl hst.ctx (Y.moveB rfl) ?_
            cases b48
            · replace hb48 := of_decide_eq_false hb48.symm
              exact absurd (by omega) hb48
            · replace hb48 := of_decide_eq_true hb48.symm
              refine Ops.y rfl rfl rfl hst.ctx (Y.moveT rfl) ?_
              refine Ops.y rfl rfl rfl hst.ctx (Y.moveT rfl) ?_
              refine Ops.yb rfl rfl rfl hst.ctx (Y.eqT rfl rfl) (fun b53 hb53 => ?_)
              first
              | refine Ops.y rfl rfl rfl hst.ctx (Y.loadA 0 Try.isAgg28 Try.sizeOf28 rfl rfl rfl rfl) ?_
              | refine Ops.y rfl rfl rfl hst.ctx (Y.loadA 1 Try.isAgg28 Try.sizeOf28 rfl rfl rfl rfl) ?_
              first
              | refine Ops.y rfl rfl rfl hst.ctx (Y.loadA 0 Try.isAgg28 Try.sizeOf28 rfl rfl rfl rfl) ?_
              | refine Ops.y rfl rfl rfl hst.ctx (Y.loadA 1 Try.isAgg28 Try.sizeOf28 rfl rfl rfl rfl) ?_
              refine Ops.x rfl rfl rfl (X.call cf20 rfl ?_)
              refine use_call (same_any x y hxin.1 _ _ _ _ _ _ _ _ _ hst hrx hry) rfl ?_; clear hst; rintro e w1 ⟨b56, rfl, hb56, hst⟩; refine ⟨_, rfl, ?_⟩
              refine Ops.yb rfl rfl rfl hst.ctx (Y.eqB Try.underlying4 rfl rfl) (fun b57 hb57 => ?_)
              refine Ops.y rfl rfl rfl hst.ctx (Y.pick (.bool _) rfl rfl) ?_
              refine Ops.y rfl rfl rfl hst.ctx (Y.assignB rfl) ?_
              refine Ops.done rfl ?_
              refine W.ret rfl ?_
              cases b57
              · replace hb57 := of_decide_eq_false hb57.symm
                exact absurd (by rw [hb53, hb56, decide_eq_decide]; exact hsame) hb57
              · replace hb57 := of_decide_eq_true hb57.symm
                refine ⟨_, Rslt.one Try.results9 rfl, ?_⟩
                exact ⟨rfl, hst.drop.drop.below⟩
        · replace hb35 := of_decide_eq_true hb35.symm
          refine W.condT rfl rfl ?_
          refine W.seq rfl ?_
          refine W.region rfl ?_
          refine Ops.y rfl rfl rfl hst.ctx (Y.assignB rfl) ?_
          refine Ops.done rfl ?_
          refine W.ret rfl ?_
          refine ⟨_, Rslt.one Try.results9 rfl, ?_⟩
          exact ⟨rfl, hst.drop.drop.below⟩
      · replace hb32 := of_decide_eq_true hb32.symm
        refine Ops.no rfl rfl rfl ?_
        refine Ops.no rfl rfl rfl ?_
        refine Ops.y rfl rfl rfl hst.ctx (Y.pick (.bool _) rfl rfl) ?_
        refine Ops.done rfl ?_
        refine W.condT rfl rfl ?_
        refine W.seq rfl ?_
        refine W.region rfl ?_
        refine Ops.y rfl rfl rfl hst.ctx (Y.assignB rfl) ?_
        refine Ops.done rfl ?_
        refine W.ret rfl ?_
        refine ⟨_, Rslt.one Try.results9 rfl, ?_⟩
        exact ⟨rfl, hst.drop.drop.below⟩
    · replace hb19 := of_decide_eq_true hb19.symm
      refine W.condT rfl rfl ?_
      refine W.seq rfl ?_
      refine W.region rfl ?_
      refine Ops.y rfl rfl rfl hst.ctx (Y.assignB rfl) ?_
      refine Ops.done rfl ?_
      refine W.ret rfl ?_
      refine ⟨_, Rslt.one Try.results9 rfl, ?_⟩
      exact ⟨rfl, hst.drop.drop.below⟩
  · replace hb14 := of_decide_eq_true hb14.symm
    refine Ops.no rfl rfl rfl ?_
    refine Ops.no rfl rfl rfl ?_
    refine Ops.no rfl rfl rfl ?_
    refine Ops.no rfl rfl rfl ?_
    refine Ops.y rfl rfl rfl hst.ctx (Y.pick (.bool _) rfl rfl) ?_
    refine Ops.done rfl ?_
    refine W.condT rfl rfl ?_
    refine W.seq rfl ?_
    refine W.region rfl ?_
    refine Ops.y rfl rfl rfl hst.ctx (Y.assignB rfl) ?_
    refine Ops.done rfl ?_
    refine W.ret rfl ?_
    refine ⟨_, Rslt.one Try.results9 rfl, ?_⟩
    exact ⟨rfl, hst.drop.drop.below⟩
end Go.Proofs.Ytkbkgpedpaodlaa.W
