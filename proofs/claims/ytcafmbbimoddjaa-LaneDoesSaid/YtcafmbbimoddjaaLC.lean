/- The walk of Tick. -/
import Derived.Test.YtcafmbbimoddjaaLB
set_option linter.unusedVariables false
set_option linter.unusedSimpArgs false
namespace Go.Proofs.Ytcafmbbimoddjaa.LN
open Go.RowKit Go.Proofs.Ytcafmbbimoddjaa.K
theorem Tick_nil (most : Int) (w : World) : Calls Try.prog 12 #[.pointer none, .int .i64 most] w fun e w' => e = .returned (.int .i64 0) ∧ w = w' := by
  refine W.func Try.func12 rfl Try.ntmps12 rfl ?_
  refine W.seq rfl ?_
  refine W.region rfl ?_
  refine Ops.y rfl rfl rfl (any _) (Y.assignI rfl) ?_
  refine Ops.done rfl ?_
  refine W.seq rfl ?_
  refine W.region rfl ?_
  refine Ops.y rfl rfl rfl (any _) (Y.assignI rfl) ?_
  refine Ops.done rfl ?_
  refine W.seq rfl ?_
  refine W.seq rfl ?_
  refine W.region rfl ?_
  refine Ops.y rfl rfl rfl (any _) (Y.moveP rfl) ?_
  refine Ops.y rfl rfl rfl (any _) (Y.isNil Try.underlying25 rfl rfl) ?_
  refine Ops.done rfl ?_
  refine W.condT rfl rfl ?_
  refine W.seq rfl ?_
  refine W.region rfl ?_
  refine Ops.y rfl rfl rfl (any _) (Y.assignI rfl) ?_
  refine Ops.done rfl ?_
  refine W.ret rfl ?_
  refine ⟨_, Rslt.one Try.results12 rfl, ?_⟩
  exact ⟨rfl, rfl⟩

theorem gn_len {rows : List Rw} {N : Int} (hw : LWf N rows) (most : Int) (k : Nat) (hk : k < 48) :
    gn (rows.map Rw.items) most (k + 1) = gn (rows.map Rw.items) most k + (((rows.getD k zr).count : Int) - ((stay most (rows.getD k zr).items).length : Int)) := by
  rw [gn_succ (by rw [List.length_map, hw.len]; exact hk), map_items_getD hw hk, Rw.items_length]
set_option maxHeartbeats 2000000 in
theorem Tick_any (b : Nat) (N : Int) (qs : Qs) (most : Int) (w0 w : World) (F0 : List Nat) (L G : List Res) (hst : St w0 F0 w (QR b N qs :: L) G) (hN : 0 ≤ N) (hN2 : N ≤ 4611686018427387904) :
    Calls Try.prog 12 #[.pointer (some ⟨b, 0, none⟩), .int .i64 most] w fun e w' => e = .returned (.int .i64 (gn qs most 48)) ∧ St w0 F0 w' (QR b (N + 1) (tickQ qs most) :: L) G := by
  obtain ⟨rows0, hw0, rfl, hsu⟩ := hst.openQ
  clear hst
  have hst := hsu
  clear hsu
  generalize hqs : rows0.map Rw.items = qs
  have hql : qs.length = 48 := by rw [← hqs, List.length_map, hw0.len]
  refine W.func Try.func12 rfl Try.ntmps12 rfl ?_
  refine W.seq rfl ?_
  refine W.region rfl ?_
  refine Ops.y rfl rfl rfl hst.ctx (Y.assignI rfl) ?_
  refine Ops.done rfl ?_
  refine W.seq rfl ?_
  refine W.region rfl ?_
  refine Ops.y rfl rfl rfl hst.ctx (Y.assignI rfl) ?_
  refine Ops.done rfl ?_
  refine W.seq rfl ?_
  refine W.seq rfl ?_
  refine W.region rfl ?_
  refine Ops.y rfl rfl rfl hst.ctx (Y.moveP rfl) ?_
  refine Ops.y rfl rfl rfl hst.ctx (Y.isNil Try.underlying25 rfl rfl) ?_
  refine Ops.done rfl ?_
  refine W.condF rfl rfl ?_
  refine W.skip rfl ?_
  refine W.seq rfl ?_
  refine W.seq rfl ?_
  refine W.region rfl ?_
  refine Ops.y rfl rfl rfl hst.ctx (Y.moveI rfl) ?_
  refine Ops.done rfl ?_
  refine W.block rfl ?_
  refine W.loop (γ := Nat × List Rw) [(0, .pointer _), (1, .int _ _)] (fun x => [(5, .int .i64 (gn qs most x.1)), (11, .int .i64 (x.1 : Int))]) (fun x w => x.1 ≤ 48 ∧ LWf (N + 1) x.2 ∧ (∀ j, x.1 ≤ j → j < 48 → x.2.getD j zr = rows0.getD j zr) ∧ x.2.map Rw.items = tickQ (qs.take x.1) most ++ qs.drop x.1 ∧ (0 ≤ gn qs most x.1 ∧ gn qs most x.1 ≤ 64 * (x.1 : Int)) ∧ St w0 F0 w (LR b x.2 :: L) G) (fun x => 48 - x.1) ((0, rows0)) rfl ⟨rfl, rfl, trivial⟩ ?_ ?_ ?_
  · exact ⟨rfl, rfl, trivial⟩
  · exact ⟨by omega, hw0.le (by omega), fun _ _ _ => rfl, by rw [hqs]; simp [tickQ], by simp [gn, tot, tickQ], hst⟩
  · clear hst; rintro ⟨k, rows⟩ j0 w3 ⟨hk, hw, hold, hit, hgn, hst⟩
    dsimp only at hk hw hold hit hgn hst ⊢
    refine W.seq rfl ?_
    refine W.region rfl ?_
    refine Ops.yb rfl rfl rfl hst.ctx (Y.lss rfl rfl) (fun b12 hb12 => ?_)
    refine Ops.done rfl ?_
    refine W.seq rfl ?_
    cases b12
    · replace hb12 := of_decide_eq_false hb12.symm
      refine W.condF rfl rfl ?_
      refine W.exit rfl ?_
      refine W.seq rfl ?_
      refine W.region rfl ?_
      refine Ops.y rfl rfl rfl hst.ctx (Y.moveI rfl) ?_
      refine Ops.y rfl rfl rfl hst.ctx (Y.assignI rfl) ?_
      refine Ops.done rfl ?_
      refine W.ret rfl ?_
      refine ⟨_, Rslt.one Try.results12 rfl, ?_⟩
      have hk48 : k = 48 := by omega
      subst hk48
      refine ⟨rfl, ?_⟩
      refine St.shutQ hst hw ?_
      rw [hit, List.take_of_length_le (by omega), List.drop_of_length_le (by omega), List.append_nil]
    · replace hb12 := of_decide_eq_true hb12.symm
      refine W.condT rfl rfl ?_
      refine W.skip rfl ?_
      refine W.seq rfl ?_
      refine W.block rfl ?_
      refine W.seq rfl ?_
      refine W.region rfl ?_
      refine Ops.y rfl rfl rfl hst.ctx (Y.moveI rfl) ?_
      refine Ops.y rfl rfl rfl hst.ctx (Y.assignI rfl) ?_
      refine Ops.done rfl ?_
      refine W.seq rfl ?_
      refine W.region rfl ?_
      have hk48 : k < 48 := by omega
      have hm := hw.get hk48
      have hr := hw.wf _ hm
      have hpre := hw.pre hk48
      have hrc := hr.c
      rw [LR_at hw hk48] at hst
      have hr0 := hold k (by omega) hk48
      have hage : ∀ x ∈ (rows.getD k zr).items, 0 ≤ x.2 ∧ x.2 ≤ N := item_age hr (by rw [hr0]; exact hw0.age _ (hw0.get hk48))
      refine Ops.y rfl rfl rfl hst.ctx (Y.moveP rfl) ?_
      refine Ops.y rfl rfl rfl hst.ctx (Y.moveI rfl) ?_
      refine Ops.y rfl rfl rfl hst.ctx (Y.nilCheck rfl) ?_
      first
      | refine Ops.y rfl rfl rfl hst.ctx (Y.fieldAddr fa53_0 rfl) ?_
      | refine Ops.y rfl rfl rfl hst.ctx (Y.fieldAddrP fa53_0 rfl) ?_
      refine Ops.y rfl rfl rfl hst.ctx ((Y.indexAddrA Try.underlying51 Try.sizeOf50 rfl rfl (by omega)).cast (show Value.pointer (some ⟨b, 0 + 0 + ((k : Nat) : Int).toNat * 130, none⟩) = .pointer (some ⟨b, k * 130, none⟩) from ptr_eq (by omega))) ?_
      refine Ops.y rfl rfl rfl hst.ctx (Y.assignP rfl) ?_
      refine Ops.done rfl ?_
      refine W.seq rfl ?_
      refine W.region rfl ?_
      refine Ops.y rfl rfl rfl hst.ctx (Y.moveP rfl) ?_
      refine Ops.y rfl rfl rfl hst.ctx (Y.nilCheck rfl) ?_
      first
      | refine Ops.y rfl rfl rfl hst.ctx (Y.fieldAddr fa50_2 rfl) ?_
      | refine Ops.y rfl rfl rfl hst.ctx (Y.fieldAddrP fa50_2 rfl) ?_
      first
      | refine Ops.y rfl rfl rfl hst.ctx (Y.load 0 Try.isAgg3 rfl rfl (at_count hpre hr)) ?_
      | refine Ops.y rfl rfl rfl hst.ctx (Y.load 1 Try.isAgg3 rfl rfl (at_count hpre hqp)) ?_
      | refine Ops.y rfl rfl rfl hst.ctx (Y.load 1 Try.isAgg3 rfl rfl (at_count hpre hq2)) ?_
      refine Ops.y rfl rfl rfl hst.ctx (Y.moveI rfl) ?_
      refine Ops.done rfl ?_
      refine W.block rfl ?_
      refine W.loop (γ := Nat × Rw) [(0, .pointer _), (1, .int _ _), (7, .pointer _), (11, .int _ _), (22, .int _ _)] (fun y => [(5, .int .i64 (gn qs most k + ((y.1 : Int) - ((stay most ((rows.getD k zr).items.take y.1)).length : Int)))), (23, .int .i64 (y.1 : Int))]) (fun y w => y.1 ≤ (rows.getD k zr).count ∧ y.2.Wf ∧ (∀ x ∈ y.2.ring, 0 ≤ x.2 ∧ x.2 ≤ N + 1) ∧ y.2.items = (rows.getD k zr).items.drop y.1 ++ stay most ((rows.getD k zr).items.take y.1) ∧ St w0 F0 w (rowR' b (lcells (rows.take k)) y.2 (lcells (rows.drop (k + 1))) :: L) G) (fun y => (rows.getD k zr).count - y.1) ((0, rows.getD k zr)) rfl ⟨rfl, rfl, rfl, rfl, rfl, trivial⟩ ?_ ?_ ?_
      · exact ⟨congrArg (Value.int .i64) (show gn qs most k = gn qs most k + (((0 : Nat) : Int) - ((stay most ((rows.getD k zr).items.take 0)).length : Int)) by simp [stay]), rfl, trivial⟩
      · exact ⟨by dsimp only; omega, hr, hw.age _ hm, by simp [stay], hst⟩
      · clear hst; rintro ⟨j, q⟩ j1 w8 ⟨hj, hq, hqa, hqi, hst⟩
        dsimp only at hj hq hqa hqi hst ⊢
        refine W.seq rfl ?_
        refine W.region rfl ?_
        have hsl := stay_len most ((rows.getD k zr).items.take j)
        have htl : ((rows.getD k zr).items.take j).length = j := by rw [List.length_take, Rw.items_length]; omega
        refine Ops.yb rfl rfl rfl hst.ctx (Y.lss rfl rfl) (fun b24 hb24 => ?_)
        refine Ops.done rfl ?_
        refine W.seq rfl ?_
        cases b24
        · replace hb24 := of_decide_eq_false hb24.symm
          refine W.condF rfl rfl ?_
          refine W.exit rfl ?_
          refine W.region rfl ?_
          refine Ops.y rfl rfl rfl hst.ctx (Y.addI rfl rfl (by omega)) ?_
          refine Ops.y rfl rfl rfl hst.ctx (Y.moveI rfl) ?_
          refine Ops.done rfl ?_
          have hjc : j = (rows.getD k zr).count := by omega
          subst hjc
          have hta : (rows.getD k zr).items.take (rows.getD k zr).count = (rows.getD k zr).items := List.take_of_length_le (by rw [Rw.items_length]; omega)
          have hda : (rows.getD k zr).items.drop (rows.getD k zr).count = [] := List.drop_of_length_le (by rw [Rw.items_length]; omega)
          rw [hta, hda, List.nil_append] at hqi
          rw [hta] at hsl
          have hgl := gn_len hw0 most k hk48
          rw [hqs, ← hr0] at hgl
          rw [Rw.items_length] at hsl
          have hgk : (rows0.map Rw.items).getD k [] = (rows.getD k zr).items := by rw [map_items_getD hw0 hk48, hr0]
          rw [hqs] at hgk
          have hg5 : Value.int .i64 (gn qs most k + (((rows.getD k zr).count : Int) - ((stay most ((rows.getD k zr).items.take (rows.getD k zr).count)).length : Int))) = Value.int .i64 (gn qs most (k + 1)) := by rw [hta, hgl]
          rw [LR_set hw hk48] at hst
          have hst3 := stay_len most (rows.getD k zr).items
          rw [Rw.items_length] at hst3
          exact ⟨(k + 1, rows.set k q), ⟨hg5, rfl, trivial⟩, ⟨rfl, rfl, trivial⟩, ⟨by dsimp only; omega, hw.set k hq hqa, fun i hi hi2 => by dsimp only at hi ⊢; rw [List.getD_eq_getElem?_getD, List.getElem?_set_ne (by omega), ← List.getD_eq_getElem?_getD]; exact hold i (by omega) hi2, by dsimp only; rw [map_items_set, hit, hqi, ← hgk, tick_step (by omega)], by dsimp only; omega, hst⟩, by dsimp only; omega⟩
        · replace hb24 := of_decide_eq_true hb24.symm
          refine W.condT rfl rfl ?_
          refine W.skip rfl ?_
          refine W.seq rfl ?_
          refine W.block rfl ?_
          refine W.seq rfl ?_
          refine W.region rfl ?_
          have hjc : j < (rows.getD k zr).count := by omega
          have hjl : j < (rows.getD k zr).items.length := by rw [Rw.items_length]; exact hjc
          have hqit := hqi
          rw [List.drop_eq_getElem_cons hjl] at hqit
          have hqc : 0 < q.count := by rw [← Rw.items_length, hqi]; rw [List.length_append, List.length_drop]; omega
          have hxx := items_getD hq hqc
          rw [hqi] at hxx
          have hx : (rows.getD k zr).items[j] = q.ring.getD q.first e0 := by have := hxx.1; rw [List.drop_eq_getElem_cons hjl] at this; exact this
          have hpi : q.pop.items = (rows.getD k zr).items.drop (j + 1) ++ stay most ((rows.getD k zr).items.take j) := by have := hxx.2; rw [List.drop_eq_getElem_cons hjl] at this; exact this.symm
          have hxa := hage _ (List.getElem_mem hjl)
          have hqp := hq.pop
          have hqpc : q.pop.count + 1 = q.count := by simp only [Rw.pop]; omega
          have hqcc := hq.c
          have hqpa := age_pop' (by omega : (0 : Int) ≤ N + 1) hqa
          have hts : (rows.getD k zr).items.take (j + 1) = (rows.getD k zr).items.take j ++ [(rows.getD k zr).items[j]] := List.take_succ_eq_append_getElem hjl
          have hsn := stay_snoc most ((rows.getD k zr).items.take j) (rows.getD k zr).items[j]
          rw [← hts] at hsn
          have hqpf := hqp.f
          clear hqit hxx
          refine Ops.y rfl rfl rfl hst.ctx (Y.moveP rfl) ?_
          refine Ops.x rfl rfl rfl (X.call cf22 rfl ?_)
          refine use_call (pop_any b _ _ _ q _ _ _ _ _ hst hpre hq hqc) rfl ?_; clear hst; rintro e w4 ⟨rfl, hst⟩; refine ⟨_, rfl, ?_⟩; rw [← hx]
          refine Ops.x rfl rfl rfl (X.allocA hst Try.zeroValue38 ?_)
          clear hst; intro p8 w8 hst
          refine Ops.x rfl rfl rfl (X.storeS hst 0 Try.sizeOf38 rfl rfl rfl rfl rfl (Nat.le_of_ble_eq_true rfl) rfl rfl ?_)
          clear hst; intro w10_3 hst
          try simp only [List.set_cons_zero, List.set_cons_succ, Nat.zero_add, Nat.reduceAdd, splice, List.take, List.drop, List.append_eq, List.nil_append, List.cons_append, List.length_cons, List.length_nil] at hst
          refine Ops.done rfl ?_
          refine W.seq rfl ?_
          refine W.seq rfl ?_
          refine W.region rfl ?_
          first
          | refine Ops.y rfl rfl rfl hst.ctx (Y.fieldAddr fa38_1 rfl) ?_
          | refine Ops.y rfl rfl rfl hst.ctx (Y.fieldAddrP fa38_1 rfl) ?_
          first
          | refine Ops.y rfl rfl rfl hst.ctx (Y.load 0 Try.isAgg3 rfl rfl rfl) ?_
          | refine Ops.y rfl rfl rfl hst.ctx (Y.load 0 Try.isAgg3 rfl rfl (at_count hpre hr)) ?_
          | refine Ops.y rfl rfl rfl hst.ctx (Y.load 1 Try.isAgg3 rfl rfl (at_count hpre hqp)) ?_
          | refine Ops.y rfl rfl rfl hst.ctx (Y.load 1 Try.isAgg3 rfl rfl (at_count hpre hq2)) ?_
          refine Ops.y rfl rfl rfl hst.ctx (Y.addI rfl rfl (by omega)) ?_
          first
          | refine Ops.y rfl rfl rfl hst.ctx (Y.fieldAddr fa38_1 rfl) ?_
          | refine Ops.y rfl rfl rfl hst.ctx (Y.fieldAddrP fa38_1 rfl) ?_
          refine Ops.x rfl rfl rfl (X.storeV hst 0 (.int _ _) Try.sizeOf3 rfl rfl rfl rfl (Nat.le_of_ble_eq_true rfl) rfl rfl ?_)
          clear hst; intro w11_4 hst
          try simp only [List.set_cons_zero, List.set_cons_succ, Nat.zero_add, Nat.reduceAdd, splice, List.take, List.drop, List.append_eq, List.nil_append, List.cons_append, List.length_cons, List.length_nil] at hst
          refine Ops.done rfl ?_
          refine W.seq rfl ?_
          refine W.region rfl ?_
          first
          | refine Ops.y rfl rfl rfl hst.ctx (Y.fieldAddr fa38_1 rfl) ?_
          | refine Ops.y rfl rfl rfl hst.ctx (Y.fieldAddrP fa38_1 rfl) ?_
          first
          | refine Ops.y rfl rfl rfl hst.ctx (Y.load 0 Try.isAgg3 rfl rfl rfl) ?_
          | refine Ops.y rfl rfl rfl hst.ctx (Y.load 0 Try.isAgg3 rfl rfl (at_count hpre hr)) ?_
          | refine Ops.y rfl rfl rfl hst.ctx (Y.load 1 Try.isAgg3 rfl rfl (at_count hpre hqp)) ?_
          | refine Ops.y rfl rfl rfl hst.ctx (Y.load 1 Try.isAgg3 rfl rfl (at_count hpre hq2)) ?_
          refine Ops.y rfl rfl rfl hst.ctx (Y.moveI rfl) ?_
          refine Ops.yb rfl rfl rfl hst.ctx (Y.gtr rfl rfl) (fun b34 hb34 => ?_)
          refine Ops.done rfl ?_
          cases b34
          · replace hb34 := of_decide_eq_false hb34.symm
            refine W.condF rfl rfl ?_
            refine W.skip rfl ?_
            refine W.seq rfl ?_
            refine W.drawn rfl (by kernel_rfl) (Ctx _ _ (_) (_)) [8] [(0, 0), (1, 0), (2, 0), (3, 0), (4, 0), (6, 0), (5, 1), (7, 0), (8, 1)] rfl (by kernel_rfl) hst.drew.ctx ?_
            replace hst := hst.drew
            generalize World.drew _ = wd at hst ⊢
            refine Drw.y rfl rfl rfl hst.ctx (Y.moveP rfl) ?_
            refine Drw.y rfl rfl rfl hst.ctx (Y.moveP rfl) ?_
            refine Drw.y rfl rfl rfl hst.ctx (Y.nilCheck rfl) ?_
            first
            | refine Drw.y rfl rfl rfl hst.ctx (Y.fieldAddr fa50_2 rfl) ?_
            | refine Drw.y rfl rfl rfl hst.ctx (Y.fieldAddrP fa50_2 rfl) ?_
            first
            | refine Drw.y rfl rfl rfl hst.ctx (Y.load 0 Try.isAgg3 rfl rfl rfl) ?_
            | refine Drw.y rfl rfl rfl hst.ctx (Y.load 0 Try.isAgg3 rfl rfl (at_count hpre hr)) ?_
            | refine Drw.y rfl rfl rfl hst.ctx (Y.load 1 Try.isAgg3 rfl rfl (at_count hpre hqp)) ?_
            | refine Drw.y rfl rfl rfl hst.ctx (Y.load 1 Try.isAgg3 rfl rfl (at_count hpre hq2)) ?_
            first
            | refine Drw.y rfl rfl rfl hst.ctx (Y.loadA 0 Try.isAgg38 Try.sizeOf38 rfl rfl rfl rfl) ?_
            | refine Drw.y rfl rfl rfl hst.ctx (Y.load 0 Try.isAgg3 rfl rfl (at_count hpre hr)) ?_
            | refine Drw.y rfl rfl rfl hst.ctx (Y.load 1 Try.isAgg3 rfl rfl (at_count hpre hqp)) ?_
            | refine Drw.y rfl rfl rfl hst.ctx (Y.load 1 Try.isAgg3 rfl rfl (at_count hpre hq2)) ?_
            refine Drw.x rfl rfl rfl (X.call cf23 rfl ?_)
            refine use_call (at_any b _ _ _ q.pop q.pop.count _ _ _ _ _ hst 1 rfl hpre hqp (by omega)) rfl ?_; clear hst; rintro e w5 ⟨rfl, hst⟩; refine ⟨_, rfl, ⟨hst.ctx, ?_⟩⟩
            refine Drw.y rfl rfl rfl hst.ctx (Y.nilCheck rfl) ?_
            refine Drw.z rfl rfl rfl rfl (X.storeS hst 1 Try.sizeOf38 rfl rfl rfl rfl rfl (by rw [List.length_append, List.length_append, cells_length hqp]; omega) (set_ring hpre hqp (k := (q.pop.first + q.pop.count) % 64) (by omega) (older (rows.getD k zr).items[j])) rfl ?_)
            clear hst; intro w6 hst
            have hq2 : ({ q.pop with ring := q.pop.ring.set ((q.pop.first + q.pop.count) % 64) (older (rows.getD k zr).items[j]) } : Rw).Wf := ⟨by simp [hqp.len], hqp.f, hqp.c⟩
            have e2 : ({ q.pop with ring := q.pop.ring.set ((q.pop.first + q.pop.count) % 64) (older (rows.getD k zr).items[j]) } : Rw).count = q.pop.count := rfl
            generalize h2 : ({ q.pop with ring := q.pop.ring.set ((q.pop.first + q.pop.count) % 64) (older (rows.getD k zr).items[j]) } : Rw) = q2 at hst hq2 e2
            refine Drw.done ?_
            refine W.region rfl ?_
            refine Ops.y rfl rfl rfl hst.ctx (Y.moveP rfl) ?_
            refine Ops.y rfl rfl rfl hst.ctx (Y.nilCheck rfl) ?_
            first
            | refine Ops.y rfl rfl rfl hst.ctx (Y.fieldAddr fa50_2 rfl) ?_
            | refine Ops.y rfl rfl rfl hst.ctx (Y.fieldAddrP fa50_2 rfl) ?_
            first
            | refine Ops.y rfl rfl rfl hst.ctx (Y.load 0 Try.isAgg3 rfl rfl rfl) ?_
            | refine Ops.y rfl rfl rfl hst.ctx (Y.load 0 Try.isAgg3 rfl rfl (at_count hpre hr)) ?_
            | refine Ops.y rfl rfl rfl hst.ctx (Y.load 1 Try.isAgg3 rfl rfl (at_count hpre hqp)) ?_
            | refine Ops.y rfl rfl rfl hst.ctx (Y.load 1 Try.isAgg3 rfl rfl (at_count hpre hq2)) ?_
            refine Ops.y rfl rfl rfl hst.ctx (Y.addI rfl rfl (by omega)) ?_
            refine Ops.y rfl rfl rfl hst.ctx (Y.nilCheck rfl) ?_
            first
            | refine Ops.y rfl rfl rfl hst.ctx (Y.fieldAddr fa50_2 rfl) ?_
            | refine Ops.y rfl rfl rfl hst.ctx (Y.fieldAddrP fa50_2 rfl) ?_
            refine Ops.x rfl rfl rfl (X.store hst 1 Try.sizeOf3 rfl rfl rfl rfl (by rw [List.length_append, List.length_append, cells_length hq2]; omega) ((congrArg (List.set _ _) (congrArg (Value.int .i64) (show (q2.count : Int) + 1 = ((q.pop.count + 1 : Nat) : Int) by omega))).trans (set_count hpre hq2 (q.pop.count + 1))) rfl ?_)
            clear hst; intro w7 hst
            have e3 : ({ q2 with count := q.pop.count + 1 } : Rw) = q.pop.put (older (rows.getD k zr).items[j]) := by rw [← h2]; rfl
            replace hst : St w0 F0 w7 (_ :: rowR' b (lcells (rows.take k)) ({ q2 with count := q.pop.count + 1 } : Rw) (lcells (rows.drop (k + 1))) :: L) G := hst
            rw [e3] at hst
            refine Ops.done rfl ?_
            refine W.region rfl ?_
            refine Ops.y rfl rfl rfl hst.ctx (Y.addI rfl rfl (by omega)) ?_
            refine Ops.y rfl rfl rfl hst.ctx (Y.moveI rfl) ?_
            refine Ops.done rfl ?_
            rw [if_pos (by omega)] at hsn
            have hlen : ((stay most ((rows.getD k zr).items.take (j + 1))).length : Int) = (stay most ((rows.getD k zr).items.take j)).length + 1 := by rw [hsn, List.length_append]; rfl
            have hg5 : Value.int .i64 (gn qs most k + ((j : Int) - ((stay most ((rows.getD k zr).items.take j)).length : Int))) = Value.int .i64 (gn qs most k + (((j + 1 : Nat) : Int) - ((stay most ((rows.getD k zr).items.take (j + 1))).length : Int))) := congrArg (Value.int .i64) (by omega)
            exact ⟨(j + 1, q.pop.put (older (rows.getD k zr).items[j])), ⟨hg5, rfl, trivial⟩, ⟨rfl, rfl, rfl, rfl, rfl, trivial⟩, ⟨by dsimp only; omega, hqp.put (by omega) _, age_put hqpa _ (by simp only [older]; omega), by dsimp only; rw [Rw.items_put hqp (by omega), hpi, hsn, List.append_assoc], hst.drop⟩, by dsimp only; omega⟩
          · replace hb34 := of_decide_eq_true hb34.symm
            refine W.condT rfl rfl ?_
            refine W.seq rfl ?_
            refine W.region rfl ?_
            refine Ops.y rfl rfl rfl hst.ctx (Y.moveI rfl) ?_
            refine Ops.y rfl rfl rfl hst.ctx (Y.addI rfl rfl (by omega)) ?_
            refine Ops.y rfl rfl rfl hst.ctx (Y.assignI rfl) ?_
            refine Ops.done rfl ?_
            refine W.exit rfl ?_
            refine W.region rfl ?_
            refine Ops.y rfl rfl rfl hst.ctx (Y.addI rfl rfl (by omega)) ?_
            refine Ops.y rfl rfl rfl hst.ctx (Y.moveI rfl) ?_
            refine Ops.done rfl ?_
            rw [if_neg (by omega)] at hsn
            rw [List.append_nil] at hsn
            have hg5 : Value.int .i64 (gn qs most k + ((j : Int) - ((stay most ((rows.getD k zr).items.take j)).length : Int)) + 1) = Value.int .i64 (gn qs most k + (((j + 1 : Nat) : Int) - ((stay most ((rows.getD k zr).items.take (j + 1))).length : Int))) := congrArg (Value.int .i64) (by rw [hsn]; omega)
            exact ⟨(j + 1, q.pop), ⟨hg5, rfl, trivial⟩, ⟨rfl, rfl, rfl, rfl, rfl, trivial⟩, ⟨by dsimp only; omega, hqp, hqpa, by dsimp only; rw [hpi, hsn], hst.drop⟩, by dsimp only; omega⟩
end Go.Proofs.Ytcafmbbimoddjaa.LN
