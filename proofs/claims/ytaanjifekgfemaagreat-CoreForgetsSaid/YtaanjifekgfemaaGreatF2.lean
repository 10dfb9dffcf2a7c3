/- What the proof rests on, part 2. -/
import Derived.Test.YtaanjifekgfemaaGreatF1
set_option linter.unusedVariables false
set_option linter.unusedSimpArgs false
set_option linter.unusedSectionVars false
namespace Go.Proofs.YtaanjifekgfemaaGreat.W
section
open Tryz Go.RowKit YtaanjifekgfemaaGreat.K YtaanjifekgfemaaGreat.CM
def Vy (er : Int) : Value := .iface 169 (.agg #[.int .i64 er])
def zms : List Value := [.int .i64 0, .int .i64 0, .int .i64 0, .int .i64 0, .int .i64 0, .int .i64 0, .bool false, .bool false, .int .i64 0, .int .i64 0, .int .i64 0, .int .i64 0, .int .i64 0, .slice none 0 0]
theorem Aa0 {S ρ ty} {parts : Array (Nat × Operand)}  (hp : (parts.toList.map fun x => (x.1, ev ρ x.2)) = []) : Y Tryz.prog S ρ (.build 103 parts) ty (.agg #[.int .i64 0, .int .i64 0, .int .i64 0, .int .i64 0, .int .i64 0, .int .i64 0, Value.bool false, Value.bool false, .int .i64 0, .int .i64 0, .int .i64 0, .int .i64 0, .int .i64 0, Value.slice none 0 0]) :=
 Y.build hp fun w => by simp [Instr.build, go_sem]
theorem A8q {S ρ ty} {parts : Array (Nat × Operand)} {x0 : Int} (hp : (parts.toList.map fun x => (x.1, ev ρ x.2)) = [(0, .int .i64 x0)]) : Y Tryz.prog S ρ (.build 169 parts) ty (.agg #[.int .i64 x0]) :=
 Y.build hp fun w => by simp [Instr.build, go_sem]
theorem Bb6 : FA 169 0 0 := fun _ _ => by simp [Instr.fieldAt, Instr.sureAddr, go_sem]
theorem Wg (er : Int) (Wd : World) : Calls Tryz.prog 82 #[.bool true, .int .i64 er] Wd fun e w' => e = .returned (.tuple #[]) ∧ Wd = w' := by
 refine W.func func82 rfl ntmps82 rfl<|Wh rfl<|Ops.y rfl rfl rfl (any _) (Y.moveB rfl)<|Ops.y rfl rfl rfl (any _) (Y.not rfl)<|Od rfl<|Wu rfl rfl<|Wk rfl<|⟨_, Ac.none results82, ?_⟩; exact ⟨rfl, rfl⟩
theorem Oi (er : Int) (Wd : World) : Calls Tryz.prog 82 #[.bool false, .int .i64 er] Wd fun e w' => e = .panicked [{ v := Vy er, recovered := false }] ∧ Wd = w' := by
 refine W.func func82 rfl ntmps82 rfl<|Wh rfl<|Ops.y rfl rfl rfl (any _) (Y.moveB rfl)<|Ops.y rfl rfl rfl (any _) (Y.not rfl)<|Od rfl<|Wt rfl rfl<|Wr rfl<|Ops.y rfl rfl rfl (any _) (Y.moveI rfl)<|Ops.y rfl rfl rfl (any _) (A8q rfl)<|Ops.y rfl rfl rfl (any _) (Y.iface underlying169 rfl)<|Ops.xp rfl rfl (XP.panic rfl<|?_); exact ⟨rfl, rfl⟩
theorem Be4 (pm pe : Value) (w0 w : World) (F0 : List Nat) (L G : List Res) (I : St w0 F0 w L G) :
  CallsD Tryz.prog 81 #[pm, pe] .returning w fun e u' w' => e = .returned (.tuple #[]) ∧ u' = .returning ∧ St w0 F0 w' L G := by
 refine W.funcR (args := [_, _]) func81 O ntmps81 O O O O O O O O (.inl ⟨O, O, O⟩)<|Wh O<|I.y O (Y.moveV O)<|I.y O (Y.assertNo underlying169 zeroValue169 O)<|I.y O (Y.moveU O)<|I.e O O O<|I.e O O O<|Ow O (X.allocA I zeroValue169<|?_); clear I; intro p3 w3 I; refine Ow O (X.storeS I 0 sizeOf169 O O O O O (lZ O) O O ?_); clear I; intro w1_6 I
 try simp only [List.set_cons_zero, List.set_cons_succ, Nat.zero_add, Nat.reduceAdd, splice, List.take, List.drop, List.append_eq, List.nil_append, List.cons_append, List.length_cons, List.length_nil] at I
 refine I.g O O<|Ds O O<|I.b O O<|Od O<|Wu O O<|Wh O<|I.y O (Y.moveV O)<|I.y O (Y.neNil underlying20 O)<|Od O<|Wu O O<|Wk O<|⟨_, Ac.none results81, ?_⟩; exact ⟨O, O, I.drop⟩
theorem As3 (bm be : Nat) (ms : List Value) (hms : ms.length = 14) (v0 : Value) (er : Int) (w0 w : World) (F0 : List Nat) (L G : List Res) (I : St w0 F0 w (Aa bm ms 103 :: Aa be [v0] 44 :: L) G) :
  CallsD Tryz.prog 81 #[.pointer (some ⟨bm, 0, none⟩), .pointer (some ⟨be, 0, none⟩)] (.panicking [{ v := Vy er, recovered := false }]) w fun e u' w' => e = .returned (.tuple #[]) ∧ u' = .panicking [{ v := Vy er, recovered := true }] ∧
   St w0 F0 w' (Aa bm zms 103 :: Aa be [.int .i64 er] 44 :: L) G := by
 refine W.funcR (args := [_, _]) func81 O ntmps81 O O O O O O O O (.inr ⟨O, O⟩)<|Wh O<|I.y O (Y.moveV O)<|I.y O (Y.assertYes underlying169 O)<|I.y O (Y.moveU O)<|I.e O O O<|I.e O O O<|Ow O (X.allocA I zeroValue169<|?_); clear I; intro p3 w3 I; refine Ow O (X.storeS I 0 sizeOf169 O O O O O (lZ O) O O ?_); clear I; intro w1_6 I
 try simp only [List.set_cons_zero, List.set_cons_succ, Nat.zero_add, Nat.reduceAdd, splice, List.take, List.drop, List.append_eq, List.nil_append, List.cons_append, List.length_cons, List.length_nil] at I
 refine I.g O O<|Ds O O<|I.b O O<|Od O<|Wt O O<|?_; replace I := I.toFact; refine W.drawn O (by kernel_rfl) (Ctx _ _ (L) (_)) [] (T0 [0,1,2] (T1 [3,4] .nil)) O (by kernel_rfl) I.drew.ctx2 ?_; replace I := I.drew; generalize World.drew _ = wd at I ⊢; refine Dq rfl I.ctx2 (Aa0 rfl)<|Dq rfl I.ctx2 (Y.fieldAddr Bb6 rfl)<|Dq rfl I.ctx2 (Y.loadG 0 isAgg44 rfl rfl rfl)<|Dw rfl (X.storeS I 0 sizeOf103 rfl rfl (vs := zms) rfl rfl rfl (by rw [hms]; exact Nat.le_refl _) (cs' := zms) (by unfold splice; simp [zms, hms]) rfl<|?_); clear I; intro w33 I; refine ⟨I.ctx2, Dw O (X.storeV I 1 (.int _ _) sizeOf44 O O O O (lZ O) O O<|?_)⟩; clear I; intro w34 I; refine ⟨I.ctx2, Dd<|⟨_, Ac.none results81, ?_⟩⟩; exact ⟨O, O, I.forget⟩
def rdn (l : List UInt8) : Nat := l.foldl (fun a c => a * 256 + c.toNat) 0
theorem A3z (l : List UInt8) (c : UInt8) : rdn (l ++ [c]) = rdn l * 256 + c.toNat := by simp [rdn]
theorem Bm8 (l : List UInt8) : rdn l < 256 ^ l.length := by
  suffices H : ∀ (l : List UInt8) (a : Nat), l.foldl (fun a c => a * 256 + c.toNat) a < (a + 1) * 256 ^ l.length by
    have := H l 0; simpa [rdn] using this
  intro l
  induction l with
  | nil => intro a; simp
  | cons c l ih =>
    intro a; have h1 := ih (a * 256 + c.toNat); have h2 : c.toNat < 256 := UInt8.toNat_lt c; simp only [List.foldl_cons, List.length_cons]; refine Nat.lt_of_lt_of_le h1 ?_; rw [Nat.pow_succ, Nat.mul_comm (256 ^ l.length) 256, ← Nat.mul_assoc]; exact Nat.mul_le_mul_right _ (by omega)
def rd8 (l : List UInt8) : Int := IntKind.i64.wrap (rdn l : Int)
theorem Bm2 (a : Nat) (c : UInt8) (h : a < 72057594037927936) :
  Value.int .u64 (IntKind.u64.wrap (BitVec.ofInt IntKind.u64.bits (IntKind.u64.wrap ((a : Int) * 2 ^ (min ((8 : Int)).toNat IntKind.u64.bits))) ||| BitVec.ofInt IntKind.u64.bits (IntKind.u64.wrap (c.toNat : Int))).toNat) = .int .u64 ((a * 256 + c.toNat : Nat) : Int) := by
 have hc : c.toNat < 256 := UInt8.toNat_lt c
 have e1 : IntKind.u64.wrap ((a : Int) * 2 ^ (min ((8 : Int)).toNat IntKind.u64.bits)) = ((256 * a : Nat) : Int) := by
  rw [wrap_u64]; show (a : Int) * 256 % 18446744073709551616 = _; omega
 have e2 : IntKind.u64.wrap (c.toNat : Int) = (c.toNat : Int) := by rw [wrap_u64]; omega
 rw [e1, e2]; refine congrArg (Value.int .u64) ?_; show IntKind.u64.wrap (((BitVec.ofInt 64 ((256 * a : Nat) : Int) ||| BitVec.ofInt 64 ((c.toNat : Nat) : Int)).toNat : Nat) : Int) = _; rw [BitVec.ofInt_natCast, BitVec.ofInt_natCast, BitVec.toNat_or, BitVec.toNat_ofNat, BitVec.toNat_ofNat, Nat.mod_eq_of_lt (by omega), Nat.mod_eq_of_lt (by omega)]; have h3 := Nat.two_pow_add_eq_or_of_lt (i := 8) (b := c.toNat) hc a; rw [show (2 : Nat) ^ 8 = 256 from rfl] at h3; rw [← h3, wrap_u64]; omega
theorem Ao5 {l : List Nat} {k : Nat} (h : k < l.length) : l.getD k 0 ∈ l := by simp [h]
theorem _root_.Go.Proofs.YtaanjifekgfemaaGreat.K.Rds.any {L G : List Res} {v : Value} {n : Nat} {xs : List Value} (h : Rds [] G v n xs) : Rds L G v n xs := h.mono (by simp) (fun r h => h)
def Bdq (b : Nat) (offs : List Nat) : List Value := offs.map fun o => .pointer (some ⟨b, o, none⟩)
def fk (cs : List Value) (offs : List Nat) (s : List UInt8) : Nat → List Value
  | 0 => cs
  | k + 1 => (fk cs offs s k).set (offs.getD k 0) (.int .i64 (rd8 ((s.drop (8 * k)).take 8)))
theorem Anq (cs : List Value) (offs : List Nat) (s : List UInt8) (k : Nat) : (fk cs offs s k).length = cs.length := by
 induction k with
 | zero => rfl
 | succ k ih => simp [fk, ih]
theorem A2z {b : Nat} {offs : List Nat} {k : Nat} (h : k < offs.length) : (Bdq b offs)[(k : Int).toNat * 1]? = some (.pointer (some ⟨b, offs.getD k 0, none⟩)) := by
 simp [Bdq, h]
theorem H7 {l : List UInt8} {k : Nat} (h : k < l.length) : (bvs l)[(k : Int).toNat * 1]? = some (.int .u8 ((l.getD k 0).toNat : Int)) := by
 simp [bvs, h, bv]
theorem Af6 {l : List UInt8} {k : Nat} (h : k < l.length) : l.take (k + 1) = l.take k ++ [l.getD k 0] := by
 rw [List.take_succ_eq_append_getElem h]; simp [h]
theorem Vm : FA 177 0 0 := fun _ _ => by simp [Instr.fieldAt, Instr.sureAddr, go_sem]
set_option maxHeartbeats 2000000 in
theorem Um (br bt : Nat) (offs : List Nat) (cs : List Value) (te : TypeId) (s : List UInt8) (A AL : Option Addr) (cp cl : Nat) (w0 w : World) (F0 : List Nat) (L G : List Res)
  (I : St w0 F0 w (Aa br [.slice A s.length cp] 177 :: Aa bt cs te :: L) G) (hs : Rds [] G (.slice A s.length cp) s.length (bvs s)) (hl : Rds L G (.slice AL offs.length cl) offs.length (Bdq bt offs))
  (h8 : 8 * offs.length ≤ s.length) (hmax : s.length ≤ 1000000) (hof : ∀ o ∈ offs, o < cs.length) :
  Calls Tryz.prog 84 #[.pointer (some ⟨br, 0, none⟩), .slice AL offs.length cl] w fun e w' => e = .returned (.tuple #[]) ∧ ∃ A' cp', Rds [] G (.slice A' (s.drop (8 * offs.length)).length cp') (s.drop (8 * offs.length)).length (bvs (s.drop (8 * offs.length))) ∧
   St w0 F0 w' (Aa br [.slice A' (s.drop (8 * offs.length)).length cp'] 177 :: Aa bt (fk cs offs s offs.length) te :: L) G := by
 refine W.func func84 O ntmps84 O<|Wh O<|I.s O O<|I.y O (Y.lenS underlying201 O)<|I.u O O<|Od O<|Wb O<|?_; refine W.loop (γ := Nat) [(0, .pointer _), (9, .slice _ _ _), (10, .int _ _)] (fun k => [(11, .int .i64 (k : Int))]) (fun k w => k ≤ offs.length ∧ ∃ A' cp', Rds [] G (.slice A' (s.drop (8 * k)).length cp') (s.drop (8 * k)).length (bvs (s.drop (8 * k))) ∧ St w0 F0 w (Aa br [.slice A' (s.drop (8 * k)).length cp'] 177 :: Aa bt (fk cs offs s k) te :: L) G) (fun k => offs.length - k) (0) O ⟨O, O, O, trivial⟩ ?_ ?_ ?_
 ·exact ⟨O, trivial⟩
 ·exact ⟨by omega, A, cp, by simpa using hs, by simpa [fk] using I⟩
 ·clear I; rintro k j w1 ⟨hk, A', cp', hs', I⟩; refine Wh O<|I.v O O O (fun b12 hb12 => Od O<|Wq O<|?_); cases b12
  ·replace hb12 := dF hb12; refine Wu O O<|W.exit O<|⟨_, Ac.none results84, ?_⟩; have hkk : k = offs.length := by omega
   subst hkk; exact ⟨O, A', cp', hs', I⟩
  ·replace hb12 := dT hb12; refine Wt O O<|Wk O<|Wq O<|Wb O<|Wq O<|?_; have hk1 : k < offs.length := by omega
   have hlen : (s.drop (8 * k)).length = s.length - 8 * k := List.length_drop ..; refine Wr rfl<|I.y rfl (Y.indexAddr underlying201 sizeOf179 rfl rfl ((((hl.cons _).cons _).sl I).ne (by simp [Bdq]; omega)) (by omega))<|?_; refine I.y O (Y.loadSl isAgg179 O ((hl.cons _).cons _) (A2z hk1))<|I.y O (Y.assignP O)<|Ds O O<|I.a O O<|Od O<|Wq O<|Wq O<|?_
   have hcap : 8 ≤ cp' := by
    obtain ⟨_, _, he, hc, _⟩ := (hs'.any).sl I; injection he with _ _ he; omega
   have hs8 : Rds [] G (.slice A' 8 cp') 8 (bvs ((s.drop (8 * k)).take 8)) := by
    have := hs'.takeN (size := 1) (k := 8) (by rw [Ao, Nat.mul_one]) (by omega); simpa [bvs, List.map_take] using this
   have hl8 : ((s.drop (8 * k)).take 8).length = 8 := by rw [List.length_take]; omega
   refine Wr O<|I.p O O<|I.t O O<|I.f Vm O O<|I.y O (Y.load 0 isAgg172 O O O)<|I.y O (Y.sliceHi underlying172 sizeOf5 O O (m := 8) O hcap)<|I.y O (Y.lenS underlying172 O)<|I.u O O<|Od O<|Wb O<|?_; refine W.loop (γ := Nat) [(0, .pointer _), (5, .pointer _), (9, .slice _ _ _), (10, .int _ _), (11, .int _ _), (19, .slice _ _ _), (20, .int _ _)] (fun j => [(6, .int .u64 (rdn (((s.drop (8 * k)).take 8).take j) : Int)), (21, .int .i64 (j : Int))]) (fun j w => j ≤ 8 ∧ St w0 F0 w (Aa br [.slice A' (s.drop (8 * k)).length cp'] 177 :: Aa bt (fk cs offs s k) te :: L) G) (fun j => 8 - j) (0) O ⟨O, O, O, O, O, O, O, trivial⟩ ?_ ?_ ?_
   ·exact ⟨O, O, trivial⟩
   ·exact ⟨by omega, I⟩
   ·clear I; rintro j i w3 ⟨hj8, I⟩; refine Wh O<|I.v O O O (fun b22 hb22 => Od O<|Wq O<|?_); cases b22
    ·replace hb22 := dF hb22; refine Wu O O<|W.exit O<|?_; have hj : j = 8 := by omega
     subst hj; refine I.dv [10,11,12,13] (.op 0 0 (.op 1 2 (T0 [2,3,4,5,6,7] (.op 8 2 (.op 9 0 (T1 [10,11,12,13] .nil)))))) O (by kernel_rfl) O (by kernel_rfl) fun _ I => ?_; refine I.zp rfl rfl<|Drw.ya rfl rfl rfl I.ctx (Y.moveP rfl)<|I.zu rfl rfl<|I.z rfl (Y.conv underlying3 underlying192 rfl)<|I.zp rfl rfl<|I.zt rfl rfl<|I.zf Vm rfl rfl<|I.z rfl (Y.load 0 isAgg172 rfl rfl rfl)<|Drw.ya rfl rfl rfl I.ctx (Y.sliceLo underlying172 sizeOf5 rfl rfl (m := 8) rfl (by omega))<|I.zt rfl rfl<|Drw.z rfl rfl rfl rfl (X.store I 1 sizeOf3 rfl rfl (v := .int .i64 (rd8 (((s.drop (8 * k)).take 8).take 8))) rfl rfl (by rw [Anq]; exact hof _ (Ao5 hk1)) O O<|?_); clear I; intro w910 I; refine Drw.zy O O O O I.ctx (Y.nilCheck O)<|Drw.zy O O O O I.ctx (Y.fieldAddr Vm O)<|Drw.z O O O O (X.storeV I 0 (.slice _ _ _) sizeOf172 O O O O (lZ O) O O<|?_); clear I; intro w913 I; refine Dd<|Wr O<|I.j O O O (by omega)<|I.u O O<|Od O<|?_; have hd := hs'.dropN (size := 1) (k := 8) (by rw [Ao, Nat.mul_one]) (by omega); have hdl : (s.drop (8 * (k + 1))).length = (s.drop (8 * k)).length - 8 := by rw [List.length_drop, List.length_drop]; omega
     refine ⟨k + 1, ⟨O, trivial⟩, ⟨O, O, O, trivial⟩, ⟨by omega, Sf A' cp' 8 1, cp' - 8, ?_, ?_⟩, by omega⟩
     ·rw [hdl]; have e : bvs (s.drop (8 * (k + 1))) = (bvs (s.drop (8 * k))).drop (8 * 1) := by simp [bvs, List.map_drop, Nat.mul_add]
      rw [e]; exact hd
     ·rw [hdl]; rw [List.take_of_length_le (l := (s.drop (8 * k)).take 8) (by omega)] at I; exact I
    ·replace hb22 := dT hb22; refine Wt O O<|Wk O<|Wq O<|Wb O<|Wq O<|?_; have hj1 : j < ((s.drop (8 * k)).take 8).length := by omega
     have hlt := Bm8 (((s.drop (8 * k)).take 8).take j); refine Wr rfl<|I.y rfl (Y.indexAddr underlying172 sizeOf5 rfl rfl (((hs8.any).sl I).ne (by rw [Ao]; omega)) (by omega))<|?_; refine I.y O (Y.loadSl isAgg5 O (hs8.any) (H7 hj1))<|I.a O O<|Od O<|Wr O<|I.u O O<|I.y O (Y.shl O O (by omega))<|I.u O O<|I.y O (Y.conv underlying192 underlying5 O)<|I.y O (Y.or O O)<|I.a O O<|Od O<|Wr O<|I.j O O O (by omega)<|I.u O O<|Od O<|?_; have hpw : (256 : Nat) ^ (((s.drop (8 * k)).take 8).take j).length ≤ 256 ^ 7 := Nat.pow_le_pow_right (by decide) (by rw [List.length_take]; omega); have hor := Bm2 (rdn (((s.drop (8 * k)).take 8).take j)) (((s.drop (8 * k)).take 8).getD j 0) (Nat.lt_of_lt_of_le hlt (Nat.le_trans hpw (by decide))); rw [← A3z, ← Af6 hj1] at hor; exact ⟨j + 1, ⟨hor, O, trivial⟩, ⟨O, O, O, O, O, O, O, trivial⟩, ⟨by omega, I⟩, by omega⟩
end
end Go.Proofs.YtaanjifekgfemaaGreat.W
namespace Go.Proofs.YtaanjifekgfemaaGreat.K
section
open Tryz Go.RowKit
section
variable {P : Program} {n : Fr} {c : Code} {Q : Ez} {ρ : Env} {w0 w : World} {F0 : List Nat} {L G : List Res} {S : World → Prop} {ty t t' : TypeId} {x y : Operand}
theorem Gx (l : List UInt8) : (str l).size = l.length := by simp [str, ByteArray.size]
theorem Vc (l : List UInt8) (m : Nat) : bytesRow (str l) (l.length + m) = (bvs l ++ List.replicate m (Value.int .u8 0)).toArray := by
 unfold bytesRow; rw [Gx]; apply Array.ext'
 simp [str, bvs]; exact fun a _ => rfl
theorem X.bytes (I : St w0 F0 w L G) {src e : TypeId} (hs : P.underlying src = some .string) (hd : P.underlying t = some (.slice e)) (he : P.underlying e = some (.int .u8)) {l : List UInt8} (hx : ev ρ x = .string (str l)) {K : Value → World → Prop}
  (k : ∀ b m w', St w0 F0 w' (Aa b (bvs l ++ List.replicate m (.int .u8 0)) e :: L) G → K (.slice (some ⟨b, 0, none⟩) l.length (l.length + m)) w') : X P ρ w (.convert src t x) ty K := by
 intro a ops Q o ho _ ha hw; have hge := grownCap_ge w l.length 0 e; obtain ⟨m, hm⟩ := Nat.exists_eq_add_of_le hge; have hr := run_bytes_of_string w src t e (str l) hs hd he; rw [Gx, hm, Vc] at hr; refine wpl hw (v := .slice (some ⟨w.heap.size, 0, none⟩) l.length (l.length + m)) (w' := w.drew.alloc (.cells (bvs l ++ List.replicate m (Value.int .u8 0)).toArray e ((bvs l ++ List.replicate m (Value.int .u8 0)).toArray.size, (bvs l ++ List.replicate m (Value.int .u8 0)).toArray.size + 1))) ?_ ⟨_, O, k w.heap.size m _ ?_⟩
 ·simp only [execOp, ho, ha, hx]; rw [Sem.run_bind, hr]; rfl
 ·refine I.drew.alloc _ _ O ?_; exact ⟨_, heap_alloc_new w.drew _, .inr (by simp)⟩
theorem Rds.front (j : Nat) {b : Nat} {cs xs : List Value} {e : TypeId} (h : L[j]? = some (Aa b cs e)) {k cp : Nat} (hk : k ≤ cp) (hx : ∀ i, i < xs.length → cs[i]? = xs[i]?) : Rds L G (.slice (some ⟨b, 0, none⟩) k cp) k xs :=
 ⟨Aa b cs e, .inl (List.mem_of_getElem? h), fun w hw => ⟨_, _, rfl, hk, fun _ => ⟨_, rfl, fun i hi => by
  rw [B6, Fg hw, Nat.zero_add]; exact hx i hi⟩⟩⟩
theorem Xh (l : List UInt8) (m : Nat) : ∀ i, i < (bvs l).length → (bvs l ++ List.replicate m (Value.int .u8 0))[i]? = (bvs l)[i]? := fun i hi => List.getElem?_append_left hi
end
end
end Go.Proofs.YtaanjifekgfemaaGreat.K
namespace Go.Proofs.YtaanjifekgfemaaGreat.W
section
open Tryz Go.RowKit YtaanjifekgfemaaGreat.K YtaanjifekgfemaaGreat.CM
structure M where
  kind : Int
  from_ : Int
  slo : Int
  shi : Int
  held : Int
  hops : Int
  good : Bool
  ref : Bool
  elo : Int
  ehi : Int
  pulse : Int
  time : Int
  num : Int
  tab : List (Int × Int)
def M0 : M := ⟨0, 0, 0, 0, 0, 0, false, false, 0, 0, 0, 0, 0, []⟩
def M.Ok (m : M) : Prop := Okm m.kind m.from_ m.slo m.shi m.held m.hops m.elo m.ehi m.pulse m.time m.num m.tab
instance (m : M) : Decidable m.Ok := by unfold M.Ok; infer_instance
def gb (p : List UInt8) (i : Nat) : UInt8 := p.getD i 0
def Ew (p : List UInt8) (i : Nat) : Int := rd8 ((p.drop (4 + 8 * i)).take 8)
def Iw (p : List UInt8) (n : Nat) : List (Int × Int) := (List.range n).map fun i => (Ew p (9 + 2 * i), Ew p (10 + 2 * i))
def rdM (p : List UInt8) : M := ⟨(gb p 0).toNat, (gb p 1).toNat, Ew p 0, Ew p 1, Ew p 2, Ew p 3, decide ((gb p 2).toNat % 2 = 1), decide ((gb p 2).toNat / 2 % 2 = 1), Ew p 4, Ew p 5, Ew p 6, Ew p 7, Ew p 8, Iw p (gb p 3).toNat⟩
def F2 (p : List UInt8) : Prop := 76 ≤ p.length ∧ p.length = 76 + 16 * (gb p 3).toNat ∧ (gb p 2).toNat ≤ 3
instance (p : List UInt8) : Decidable (F2 p) := by unfold F2; infer_instance
def opn (l : List UInt8) : Option (List UInt8) := if l.length < 4 then none else if l.drop (l.length - 4) = le4 (crc (l.take (l.length - 4))) then some (l.take (l.length - 4)) else none
def Cu (l : List UInt8) : M × Int := if 4096 < l.length then (M0, 3) else match opn l with
  | none => (M0, 5)
  | some p => if F2 p then (if (rdM p).Ok then (rdM p, 0) else (M0, 4)) else (M0, 4)
theorem An3 : CF 81 := fun _ _ => by simp [go_sem]
def Bs7 (p2 p3 : Nat) : Deferred := { target := .fn (.func 81) #[.pointer (some ⟨p2, 0, none⟩), .pointer (some ⟨p3, 0, none⟩)], args := #[] }
theorem Ah8 {p2 p3 : Nat} {ms : List Value} {v0 : Value} (hms : ms.length = 14) {w0 w : World} {F0 : List Nat} {L G : List Res} (I : St w0 F0 w (Aa p2 ms 103 :: Aa p3 [v0] 44 :: L) G) {tmps : Array Value}
  (h2 : tmps.getD 2 undef = .pointer (some ⟨p2, 0, none⟩)) (h3 : tmps.getD 3 undef = .pointer (some ⟨p3, 0, none⟩)) : (results Tryz.f59 tmps).run Tryz.prog w = .ok (.tuple #[.agg ms.toArray, v0]) w := by
 have e2 := Dp (w := w) (ad := ⟨p2, 0, none⟩) (vs := ms) isAgg103 sizeOf103 hms (fun j v h => by rw [B6, I.cell (.inl (List.Mem.head _)) (0 + j), Nat.zero_add]; exact h); have e3 := C0 (w := w) (ad := ⟨p3, 0, none⟩) (v := v0) isAgg44 (by rw [I.cell (.inl (List.Mem.tail _ (List.Mem.head _))) 0]; rfl); rw [Array.getD_eq_getD_getElem?] at h2 h3; simp [results, results59, h2, h3, asAddr, e2, e3]
theorem Hi {R : Ending → World → Prop} {p2 p3 : Nat} {ms : List Value} {v0 : Value} (er : Int) (hms : ms.length = 14) {w0 w : World} {F0 : List Nat} {L G : List Res} (I : St w0 F0 w (Aa p2 ms 103 :: Aa p3 [v0] 44 :: L) G) {ρ : Env}
  (h2 : ρ 2 = .pointer (some ⟨p2, 0, none⟩)) (h3 : ρ 3 = .pointer (some ⟨p3, 0, none⟩)) (hR : ∀ w', St w0 F0 w' L G → R (.returned (.tuple #[.agg zms.toArray, .int .i64 er])) w') :
  ∀ tmps : Array Value, (∀ t, t < 4 → tmps.getD t undef = ρ t) → Leaves Tryz.prog Tryz.f59 tmps R [Bs7 p2 p3] (.panicking [{ v := Vy er, recovered := false }]) w := by
 intro tmps ht; refine leaves_cons (f := 81) (args := #[.pointer (some ⟨p2, 0, none⟩), .pointer (some ⟨p3, 0, none⟩)]) (by simp) (by simp [invoke, An3]) ?_; refine (As3 p2 p3 ms hms v0 er w0 w F0 L G I).mono ?_; rintro e u' w' ⟨rfl, rfl, I⟩; exact ⟨_, Ah8 O I ((ht 2 (by decide)).trans h2) ((ht 3 (by decide)).trans h3), hR w' I.drop.drop⟩
theorem Ba8 {R : Ending → World → Prop} {p2 p3 : Nat} {ms : List Value} {v0 : Value} (hms : ms.length = 14) {w0 w : World} {F0 : List Nat} {L G : List Res} (I : St w0 F0 w (Aa p2 ms 103 :: Aa p3 [v0] 44 :: L) G) {ρ : Env}
  (h2 : ρ 2 = .pointer (some ⟨p2, 0, none⟩)) (h3 : ρ 3 = .pointer (some ⟨p3, 0, none⟩)) (hR : ∀ w', St w0 F0 w' L G → R (.returned (.tuple #[.agg ms.toArray, v0])) w') :
  ∀ (n : Fr) a, Is n a ρ → Leaves Tryz.prog Tryz.f59 a.tmps R [Bs7 p2 p3] .returning w := by
 intro n a ha; refine leaves_cons (f := 81) (args := #[.pointer (some ⟨p2, 0, none⟩), .pointer (some ⟨p3, 0, none⟩)]) (by simp) (by simp [invoke, An3]) ?_; refine (Be4 _ _ w0 w F0 _ G I).mono ?_; rintro e u' w' ⟨rfl, rfl, I⟩; exact ⟨_, Ah8 hms I ((ha.get 2).trans h2) ((ha.get 3).trans h3), hR w' I.drop.drop⟩
end
end Go.Proofs.YtaanjifekgfemaaGreat.W
namespace Go.Proofs.YtaanjifekgfemaaGreat.Cl
section
open Tryz YtaanjifekgfemaaGreat.W
def top : Int := 2305843009213693952
def Bg (x lo hi : Int) : Int := if x < lo ∨ hi < lo then lo else if hi < x then hi else x
def Ak (x : Int) : Int := Bg x (-2305843009213693952) 2305843009213693952
def Bb (l : List Int) : Int := l.foldl (fun n x => Ak (n + Ak x)) 0
def sub (a b : Int) : Int := Ak (Ak a - Ak b)
def neg (a : Int) : Int := - Ak a
def mag (a : Int) : Int := if a < 0 then neg a else Ak a
def Da (x y : Int) : Int := if x = 0 ∨ y ≤ 2305843009213693952 / x then x * y else 2305843009213693952
def mul (a b : Int) : Int := if (a < 0 ∧ ¬ b < 0) ∨ (¬ a < 0 ∧ b < 0) then - Da (mag a) (mag b) else Da (mag a) (mag b)
def Dy (l : List Int) : Int := l.foldl (fun n x => max n (Ak x)) (-2305843009213693952)
structure Sp where
  lo : Int
  hi : Int
def Sp.all : Sp := ⟨-2305843009213693952, 2305843009213693952⟩
def Sp.of (lo hi : Int) : Sp := ⟨Ak lo, Ak hi⟩
def Sp.shift (s : Sp) (lo hi : Int) : Sp := ⟨Bb [s.lo, lo], Bb [s.hi, hi]⟩
def Sp.mid (s : Sp) : Int := (Ak s.lo + Ak s.hi) / 2
structure Par where
  N : Int
  F : Int
  D : Int
  Beat : Int
  Rho : Int
  Delay : Int
  Jitter : Int
  Eps : Int
  Mu : Int
  Hold : Int
  Pulse : Int
  Second : Int
structure Par.Ok (p : Par) : Prop where
  N : 1 ≤ p.N ∧ p.N ≤ 16
  F : 0 ≤ p.F ∧ p.F ≤ (p.N - 1) / 3
  D : 0 ≤ p.D ∧ p.D ≤ 16
  Beat : 1 ≤ p.Beat ∧ p.Beat ≤ 1099511627776
  Rho : 0 ≤ p.Rho ∧ p.Rho ≤ p.Beat / 8
  Delay : 0 ≤ p.Delay ∧ p.Delay ≤ p.Beat / 2
  Jitter : 0 ≤ p.Jitter ∧ p.Jitter ≤ p.Delay
  Eps : 0 ≤ p.Eps ∧ p.Eps ≤ 1099511627776
  Mu : p.Rho + 1 ≤ p.Mu ∧ p.Mu ≤ p.Beat / 4
  Hold : p.D + 2 ≤ p.Hold ∧ p.Hold ≤ 1048576
  Pulse : 1 ≤ p.Pulse ∧ p.Pulse ≤ 1099511627776
  Second : 1 ≤ p.Second ∧ p.Second ≤ 1099511627776
def hop (p : Par) : Int := Bb [p.Jitter, mul 2 p.Rho]
def M7 (p : Par) : Int := mul 2 (Bb [mul 2 p.Eps, hop p])
def Ju (p : Par) (held hops : Int) : Int := Bb [M7 p, mul (mul 2 p.Rho) held, mul (Bb [hops, 1]) (hop p)]
def settle (p : Par) : Int := Bb [mul 2 p.D, 6, (mul 3 (Ju p p.Hold p.D) + (sub p.Mu p.Rho) - 1) / (sub p.Mu p.Rho)]
def hold (p : Par) (s : Sp) (ticks : Int) : Sp := s.shift (sub ticks p.Rho) (Bb [ticks, p.Rho])
def way (p : Par) (s : Sp) (age : Int) : Sp := s.shift (Bb [sub p.Delay p.Jitter, age, neg p.Rho]) (Bb [p.Delay, age, p.Rho])
def Cj (p : Par) (reading : Int) : Prop := ¬ (1152921504606846976 < reading ∨ reading < -1152921504606846976 ∨ p.Eps < 0)
instance (p : Par) (reading : Int) : Decidable (Cj p reading) := by unfold Cj; infer_instance
def Aw (p : Par) (reading : Int) : Sp := if Cj p reading then ⟨sub reading p.Eps, Bb [reading, p.Eps]⟩ else ⟨0, 0⟩
def Dk (held : Int) : Int := Bg (Bb [held, 1]) 0 1073741824
def Cn (p : Par) (t : Int) : Int := Ak t / max (Ak p.Pulse) 1
def far (p : Par) (held : Int) : Int := mul 2 (Ju p (Dy [held, p.Hold]) p.D)
structure Sta where
  t : Int
  n : Int
def Sta.Less (a b : Sta) : Prop := a.t < b.t ∨ a.t = b.t ∧ a.n < b.n
instance (a b : Sta) : Decidable (a.Less b) := by unfold Sta.Less; infer_instance
def Sta.Right (s : Sta) : Prop := -2305843009213693952 ≤ s.t ∧ s.t ≤ 2305843009213693952 ∧ 0 ≤ s.n ∧ s.n ≤ 1073741824
instance (s : Sta) : Decidable s.Right := by unfold Sta.Right; infer_instance
def Sta.next (s : Sta) : Sta := if 1073741824 ≤ s.n then ⟨Bb [s.t, 1], 0⟩ else ⟨Ak s.t, max s.n 0 + 1⟩
def Sta.tick (c : Sta) (now : Int) : Sta := if c.t < Ak now then ⟨Ak now, 0⟩ else c.next
def Sta.later (a b : Sta) : Sta := if a.Less b then b else a
def Sta.of (x : Int × Int) : Sta := ⟨x.1, x.2⟩
def Sta.last (x : Int × Int) (l : List (Int × Int)) : Sta := l.foldl (fun a y => a.later (Sta.of y)) (Sta.of x)
def Sta.hear (c : Sta) (now : Int) (s : Sta) (most : Int) : Sta := if ¬ s.Right ∨ most < s.t then c.tick now else ((c.later s).later ⟨Ak now, -1⟩).next
def Sta.mended (c : Sta) (most : Int) : Prop := ¬ (c.Right ∧ c.t ≤ most)
instance (c : Sta) (most : Int) : Decidable (c.mended most) := by unfold Sta.mended; infer_instance
def Sta.mend (c : Sta) (now most : Int) : Sta := if c.mended most then ⟨Ak now, 0⟩ else c
def So (p : Par) (time : Int) (set : Bool) (ticks to : Int) (jump : Bool) : Int :=
  if jump = true ∨ set = false then Ak to else Bb [Bb [time, ticks], Bg (sub to (Bb [time, ticks])) (neg p.Mu) p.Mu]
def Fo (l : List (Int × Int)) : Prop := Km l ∧ ∀ x ∈ l, (x.1 - x.2).tmod 86400 = 0
instance (l : List (Int × Int)) : Decidable (Fo l) := by unfold Fo; infer_instance
def Qy (x y : Int) : Int := if x < y then -1 else if y < x then 1 else 0
def Eo : List Int → Int
  | [] => 0
  | x :: l => if x ≠ 0 then x else Eo l
def C6 (p : Par) (m : M) : Prop := m.kind = 2 ∧ m.good = true ∧ 0 ≤ m.hops ∧ m.hops < p.D ∧ ¬ m.shi < m.slo
instance (p : Par) (m : M) : Decidable (C6 p m) := by unfold C6; infer_instance
def Vb (m n : M) : Int := Eo [Qy m.hops n.hops, Qy m.held n.held, Qy m.from_ n.from_]
structure Stt where
  lo : Int
  hi : Int
  time : Int
  set : Bool
  held : Int
  hops : Int
  good : Bool
  tab : List (Int × Int)
  st : Int
  sn : Int
  life : Int
def Bf (p : Par) (s : Stt) : Stt where
  lo := if Ak s.hi < Ak s.lo then -2305843009213693952 else Ak s.lo
  hi := if Ak s.hi < Ak s.lo then 2305843009213693952 else Ak s.hi
  time := Ak s.time
  set := s.set
  held := Bg s.held 0 1073741824
  hops := Bg s.hops 0 (Bb [p.D, 1])
  good := if Ak s.hi < Ak s.lo then false else s.good
  tab := if Fo s.tab then s.tab else []
  st := if Sta.Right ⟨s.st, s.sn⟩ then s.st else Ak s.time
  sn := if Sta.Right ⟨s.st, s.sn⟩ then s.sn else 0
  life := Bg s.life 0 2305843009213693952
def Bq (p : Par) (s : Stt) : Int := if s.good = false ∨ s.set = false ∨ p.D < s.hops then 0 else if p.Hold < s.held then 2 else 1
theorem Hs (x lo hi : Int) (h : lo ≤ hi) : lo ≤ Bg x lo hi ∧ Bg x lo hi ≤ hi := by unfold Bg; split; omega; split <;> omega
theorem Bw (x : Int) : -2305843009213693952 ≤ Ak x ∧ Ak x ≤ 2305843009213693952 := Hs _ _ _ (by decide)
theorem Ay {x : Int} (h : -2305843009213693952 ≤ x ∧ x ≤ 2305843009213693952) : Ak x = x := by unfold Ak Bg; rw [if_neg (by omega), if_neg (by omega)]
theorem Ah6 (x : Int) : Ak x = if x < -2305843009213693952 then -2305843009213693952 else if 2305843009213693952 < x then 2305843009213693952 else x := by
 unfold Ak Bg
 by_cases h : x < -2305843009213693952
 ·rw [if_pos (.inl h), if_pos h]
 ·rw [if_neg (by omega), if_neg h]
theorem Ga (l : List Int) : -2305843009213693952 ≤ Bb l ∧ Bb l ≤ 2305843009213693952 := by
 unfold Bb
 have : ∀ (l : List Int) (a : Int), (-2305843009213693952 ≤ a ∧ a ≤ 2305843009213693952) → -2305843009213693952 ≤ l.foldl (fun n x => Ak (n + Ak x)) a ∧ l.foldl (fun n x => Ak (n + Ak x)) a ≤ 2305843009213693952 := by
  intro l
  induction l with
  | nil => intro a h; exact h
  | cons x l ih => intro a h; exact ih _ (Bw _)
 exact this l 0 (by omega)
theorem Bm9 (a b : Int) : -2305843009213693952 ≤ sub a b ∧ sub a b ≤ 2305843009213693952 := Bw _
theorem Oh (a : Int) : 0 ≤ mag a ∧ mag a ≤ 2305843009213693952 := by
 unfold mag neg; have := Bw a; rw [Ah6] at *; split <;> (try split) <;> (try split) <;> omega
theorem Fu {x y : Int} (hx : 0 ≤ x ∧ x ≤ 2305843009213693952) (hy : 0 ≤ y ∧ y ≤ 2305843009213693952) : 0 ≤ Da x y ∧ Da x y ≤ 2305843009213693952 := by
 unfold Da; split
 ·rename_i h; rcases h with h | h
  ·subst h; simp
  ·rcases Int.lt_or_eq_of_le hx.1 with h0 | h0
   ·have h1 : y * x ≤ 2305843009213693952 := (Int.le_ediv_iff_mul_le h0).1 h; rw [Int.mul_comm] at h1; exact ⟨Int.mul_nonneg hx.1 hy.1, h1⟩
   ·subst h0; simp
 ·omega
theorem Blq (a b : Int) : -2305843009213693952 ≤ mul a b ∧ mul a b ≤ 2305843009213693952 := by
 have h := Fu (Oh a) (Oh b); unfold mul; split <;> omega
theorem O3 {x : Int} (h : 0 ≤ x) : 0 ≤ Ak x := by rw [Ah6]; split; omega; split <;> omega
theorem Gg (l : List Int) (h : ∀ x ∈ l, 0 ≤ x) : 0 ≤ Bb l := by
  unfold Bb
  have : ∀ (l : List Int) (a : Int), 0 ≤ a → (∀ x ∈ l, 0 ≤ x) → 0 ≤ l.foldl (fun n x => Ak (n + Ak x)) a := by
    intro l
    induction l with
    | nil => intro a h _; exact h
    | cons x l ih =>
      intro a h h2; have h3 := O3 (h2 x (by simp)); exact ih _ (O3 (by omega)) (fun y hy => h2 y (by simp [hy]))
  exact this l 0 (by omega) h
theorem mul_nonneg {a b : Int} (ha : 0 ≤ a) (hb : 0 ≤ b) : 0 ≤ mul a b := by
 unfold mul; rw [if_neg (by omega)]; exact (Fu (Oh a) (Oh b)).1
theorem Mn {a b : Int} (ha : -1000000000000000000 ≤ a ∧ a ≤ 1000000000000000000) (hb : -1000000000000000000 ≤ b ∧ b ≤ 1000000000000000000) : sub a b = a - b := by
 unfold sub; rw [Ay (x := a) (by omega), Ay (x := b) (by omega), Ay (by omega)]
theorem Rm {p : Par} (h : p.Ok) : 0 ≤ hop p := Gg _ (by
 intro x hx; simp only [List.mem_cons, List.not_mem_nil, or_false] at hx; rcases hx with rfl | rfl
 ·exact h.Jitter.1
 ·exact mul_nonneg (by decide) h.Rho.1)
theorem V0 {p : Par} (h : p.Ok) : 0 ≤ M7 p := mul_nonneg (by decide) (Gg _ (by
 intro x hx; simp only [List.mem_cons, List.not_mem_nil, or_false] at hx; rcases hx with rfl | rfl
 ·exact mul_nonneg (by decide) h.Eps.1
 ·exact Rm h))
theorem Nt {p : Par} (h : p.Ok) {held hops : Int} (h1 : 0 ≤ held) (h2 : 0 ≤ hops) : 0 ≤ Ju p held hops := Gg _ (by
 intro x hx; simp only [List.mem_cons, List.not_mem_nil, or_false] at hx; rcases hx with rfl | rfl | rfl
 ·exact V0 h
 ·exact mul_nonneg (mul_nonneg (by decide) h.Rho.1) h1
 ·exact mul_nonneg (Gg _ (by intro y hy; simp only [List.mem_cons, List.not_mem_nil, or_false] at hy; omega)) (Rm h))
end
end Go.Proofs.YtaanjifekgfemaaGreat.Cl
namespace Go.Proofs.YtaanjifekgfemaaGreat.K
section
open Tryz Go.RowKit
section
variable {P : Program} {n : Fr} {c : Code} {Q : Ez} {ρ : Env} {w0 w : World} {F0 : List Nat} {L G : List Res} {S : World → Prop} {ty t t' : TypeId} {x y : Operand}
theorem Y.indexT (ht : P.underlying t = some .string) {l : List UInt8} {ki : IntKind} {i : Int} {k : Nat} (hx : ev ρ x = .string (K.str l)) (hy : ev ρ y = .int ki i) (hi : i = (k : Int)) (hk : k < l.length) : Y P S ρ (.index t x y) ty (.int .u8 ((l.getD k 0).toNat : Int)) := fun w _ o ho _ => by
 subst hi
 have h1 : (K.str l)[k]? = some (l.getD k 0) := by
  have h2 : k < (K.str l).size := hk; rw [getElem?_pos (K.str l) k h2]
  congr 1
  show (K.str l).data[k] = _; simp [K.str, hk]
 simp [execOp, ho, hx, hy, Instr.index, asIntOf, run_underlying ht, h1]
theorem Al0 {f0 f1 : Field} (ht : P.underlying t = some (.struct #[f0, f1])) (hp : P.stoodInHeld t = false) (h0 : f0.name ≠ "_") (h1 : f1.name ≠ "_") (o0 : f0.offset = 0) (o1 : f1.offset = 1)
  (i0 : P.underlying f0.type = some (.int .i64)) (i1 : P.underlying f1.type = some (.int .i64)) (s0 : ∀ w, (sizeOf f0.type).run P w = .ok 1 w) (s1 : ∀ w, (sizeOf f1.type).run P w = .ok 1 w) (a0 : ∀ w, (isAgg f0.type).run P w = .ok false w) (a1 : ∀ w, (isAgg f1.type).run P w = .ok false w) (a b c d : Int) (w : World) :
  (Op.equalIn 10000 t (.agg #[.int .i64 a, .int .i64 b]) (.agg #[.int .i64 c, .int .i64 d])).run P w = .ok (decide (a = c ∧ b = d)) w := by
 have hf : P.fieldsOf t = #[f0, f1] := by simp [Program.fieldsOf, ht]
 rw [run_equalIn_struct w 9999 t _ _ (by rw [hf]; exact ht) hp, hf]; simp only [Op.eqFields, h0, h1, ne_eq, not_false_eq_true, if_true, Sem.run_bind]; rw [o0, o1]
 have p0 : ∀ (u v : Value) w, u.cells = #[u] → (part f0.type #[u, v] 0).run P w = .ok u w := fun u v w hu => by
  simp [part, s0, a0]
 have p1 : ∀ (u v : Value) w, u.cells = #[u] → (part f1.type #[u, v] 1).run P w = .ok v w := fun u v w hu => by
  simp [part, s1, a1]
 rw [p0 _ _ _ rfl]; simp only [Result.andThen_ok]; rw [p0 _ _ _ rfl]; simp only [Result.andThen_ok]; rw [run_equalIn_int w 9998 f0.type .i64 .i64 a c i0]; simp only [Result.andThen_ok]
 by_cases hac : a = c
 ·subst hac; simp only [beq_self_eq_true, Bool.not_true, Bool.false_eq_true, if_false]; rw [Sem.run_bind, p1 _ _ _ rfl]; simp only [Result.andThen_ok]; rw [Sem.run_bind, p1 _ _ _ rfl]; simp only [Result.andThen_ok]; rw [Sem.run_bind, run_equalIn_int w 9998 f1.type .i64 .i64 b d i1]; simp only [Result.andThen_ok]
  by_cases hbd : b = d
  ·subst hbd; simp
  ·simp [hbd]
 ·simp [hac]
theorem Y.eq2 (hg : P.eqGuardType P.depth t = false) (he : ∀ (a b c d : Int) (w : World), (Op.equalIn 10000 t (.agg #[.int .i64 a, .int .i64 b]) (.agg #[.int .i64 c, .int .i64 d])).run P w = .ok (decide (a = c ∧ b = d)) w)
  {a b c d : Int} (hx : ev ρ x = .agg #[.int .i64 a, .int .i64 b]) (hy : ev ρ y = .agg #[.int .i64 c, .int .i64 d]) : Y P S ρ (.binOp .eql t x y t') ty (.bool (decide (a = c ∧ b = d))) := fun w _ o ho _ => by
 have h1 := run_eqGuard_agg (P := P) w .eql t x y #[.int .i64 a, .int .i64 b] #[.int .i64 c, .int .i64 d] hg; have h2 := run_eql_struct (P := P) w t #[.int .i64 a, .int .i64 b] #[.int .i64 c, .int .i64 d]; rw [he] at h2; simp only [execOp, ho, hx, hy]; rw [Sem.run_bind, Sem.run_bind, h1]; simp only [Result.andThen_ok]; rw [h2]; simp
theorem Y.ne2 (hg : P.eqGuardType P.depth t = false) (he : ∀ (a b c d : Int) (w : World), (Op.equalIn 10000 t (.agg #[.int .i64 a, .int .i64 b]) (.agg #[.int .i64 c, .int .i64 d])).run P w = .ok (decide (a = c ∧ b = d)) w)
  {a b c d : Int} (hx : ev ρ x = .agg #[.int .i64 a, .int .i64 b]) (hy : ev ρ y = .agg #[.int .i64 c, .int .i64 d]) : Y P S ρ (.binOp .neq t x y t') ty (.bool (decide (¬ (a = c ∧ b = d)))) := fun w _ o ho _ => by
 have h1 := run_eqGuard_agg (P := P) w .neq t x y #[.int .i64 a, .int .i64 b] #[.int .i64 c, .int .i64 d] hg; have h2 := run_neq_struct (P := P) w t #[.int .i64 a, .int .i64 b] #[.int .i64 c, .int .i64 d]; rw [he] at h2; have e : (!decide (a = c ∧ b = d)) = decide (¬ (a = c ∧ b = d)) := by by_cases h : a = c ∧ b = d <;> simp [h]
 rw [← e]; simp only [execOp, ho, hx, hy]; rw [Sem.run_bind, Sem.run_bind, h1]; simp only [Result.andThen_ok]; rw [h2]; simp
end
section
variable {P : Program} {n : Fr} {c : Code} {Q : Ez} {ρ : Env} {w0 w : World} {F0 : List Nat} {L G : List Res} {S : World → Prop} {ty t t' : TypeId} {x y : Operand}
theorem Y.max2 {k : IntKind} {m m' : Int} {ts : Array TypeId} (hx : ev ρ x = .int k m) (hy : ev ρ y = .int k m') : Y P S ρ (.call { callee := .builtin .max, args := #[x, y], argTypes := ts }) ty (.int k (max m m')) := fun w _ o ho _ => by
 have e : max m m' = if m < m' then m' else m := by omega
 rw [e]; simp [execOp, ho, resolve, invoke, builtin, hx, hy, Builtin.max_, Builtin.max2]
theorem Y.min2 {k : IntKind} {m m' : Int} {ts : Array TypeId} (hx : ev ρ x = .int k m) (hy : ev ρ y = .int k m') : Y P S ρ (.call { callee := .builtin .min, args := #[x, y], argTypes := ts }) ty (.int k (min m m')) := fun w _ o ho _ => by
 have e : min m m' = if m' < m then m' else m := by omega
 rw [e]; simp [execOp, ho, resolve, invoke, builtin, hx, hy, Builtin.min_, Builtin.min2]
theorem St.dr (h : St w0 F0 w L G) (n : Nat) : St w0 F0 w (L.drop n) G := by
  induction n generalizing L with
  | zero => exact h
  | succ n ih =>
    cases L with
    | nil => exact h
    | cons a L => exact ih h.drop
theorem St.sub {L' : List Res} (h : St w0 F0 w L G) (hs : L'.Sublist L) : St w0 F0 w L' G := by
 have hf : (fps L').Sublist (fps L) := by
  clear h
  induction hs with
  | slnil => exact .refl _
  | cons a _ ih => rw [Ji]; exact ih.trans (List.sublist_append_right _ _)
  | cons_cons a _ ih => rw [Ji, Ji]; exact List.Sublist.append (.refl _) ih
 refine ⟨h.os, h.tape, h.output, h.size, h.frame, fun b hb => h.own b (hf.mem hb), hf.nodup h.nod, fun r hr => h.res r (hs.mem hr), fun g hg => ?_⟩; obtain ⟨h1, h2⟩ := h.fact g hg; exact ⟨h1, fun b hb => ⟨(h2 b hb).1, fun hb' => (h2 b hb).2 (hf.mem hb')⟩⟩
theorem St.up_1 {x0 a : Res} (h : St w0 F0 w (x0 :: a :: L) G) : St w0 F0 w (a :: x0 :: L) G := h.perm (List.perm_middle (l₁ := [x0]))
theorem St.dn1 {x0 a : Res} (h : St w0 F0 w (a :: x0 :: L) G) : St w0 F0 w (x0 :: a :: L) G := h.perm (List.perm_middle (l₁ := [x0])).symm
theorem dn1 {f : FuncId} {args : Array Value} {v : Value} {w1 : World} {F1 : List Nat} {G' : List Res} {x0 a : Res} (h : Calls P f args w fun e w' => e = .returned v ∧ St w1 F1 w' (a :: x0 :: L) G') : Calls P f args w fun e w' => e = .returned v ∧ St w1 F1 w' (x0 :: a :: L) G' := h.mono fun _ _ ⟨h1, h2⟩ => ⟨h1, h2.dn1⟩
theorem St.up_2 {x0 x1 a : Res} (h : St w0 F0 w (x0 :: x1 :: a :: L) G) : St w0 F0 w (a :: x0 :: x1 :: L) G := h.perm (List.perm_middle (l₁ := [x0, x1]))
theorem St.dn2 {x0 x1 a : Res} (h : St w0 F0 w (a :: x0 :: x1 :: L) G) : St w0 F0 w (x0 :: x1 :: a :: L) G := h.perm (List.perm_middle (l₁ := [x0, x1])).symm
theorem dn2 {f : FuncId} {args : Array Value} {v : Value} {w1 : World} {F1 : List Nat} {G' : List Res} {x0 x1 a : Res} (h : Calls P f args w fun e w' => e = .returned v ∧ St w1 F1 w' (a :: x0 :: x1 :: L) G') : Calls P f args w fun e w' => e = .returned v ∧ St w1 F1 w' (x0 :: x1 :: a :: L) G' := h.mono fun _ _ ⟨h1, h2⟩ => ⟨h1, h2.dn2⟩
theorem St.up_3 {x0 x1 x2 a : Res} (h : St w0 F0 w (x0 :: x1 :: x2 :: a :: L) G) : St w0 F0 w (a :: x0 :: x1 :: x2 :: L) G := h.perm (List.perm_middle (l₁ := [x0, x1, x2]))
theorem St.dn3 {x0 x1 x2 a : Res} (h : St w0 F0 w (a :: x0 :: x1 :: x2 :: L) G) : St w0 F0 w (x0 :: x1 :: x2 :: a :: L) G := h.perm (List.perm_middle (l₁ := [x0, x1, x2])).symm
theorem dn3 {f : FuncId} {args : Array Value} {v : Value} {w1 : World} {F1 : List Nat} {G' : List Res} {x0 x1 x2 a : Res} (h : Calls P f args w fun e w' => e = .returned v ∧ St w1 F1 w' (a :: x0 :: x1 :: x2 :: L) G') : Calls P f args w fun e w' => e = .returned v ∧ St w1 F1 w' (x0 :: x1 :: x2 :: a :: L) G' := h.mono fun _ _ ⟨h1, h2⟩ => ⟨h1, h2.dn3⟩
theorem St.up_4 {x0 x1 x2 x3 a : Res} (h : St w0 F0 w (x0 :: x1 :: x2 :: x3 :: a :: L) G) : St w0 F0 w (a :: x0 :: x1 :: x2 :: x3 :: L) G := h.perm (List.perm_middle (l₁ := [x0, x1, x2, x3]))
theorem St.dn4 {x0 x1 x2 x3 a : Res} (h : St w0 F0 w (a :: x0 :: x1 :: x2 :: x3 :: L) G) : St w0 F0 w (x0 :: x1 :: x2 :: x3 :: a :: L) G := h.perm (List.perm_middle (l₁ := [x0, x1, x2, x3])).symm
theorem St.up_5 {x0 x1 x2 x3 x4 a : Res} (h : St w0 F0 w (x0 :: x1 :: x2 :: x3 :: x4 :: a :: L) G) : St w0 F0 w (a :: x0 :: x1 :: x2 :: x3 :: x4 :: L) G := h.perm (List.perm_middle (l₁ := [x0, x1, x2, x3, x4]))
theorem St.dn5 {x0 x1 x2 x3 x4 a : Res} (h : St w0 F0 w (a :: x0 :: x1 :: x2 :: x3 :: x4 :: L) G) : St w0 F0 w (x0 :: x1 :: x2 :: x3 :: x4 :: a :: L) G := h.perm (List.perm_middle (l₁ := [x0, x1, x2, x3, x4])).symm
theorem St.up_7 {x0 x1 x2 x3 x4 x5 x6 a : Res} (h : St w0 F0 w (x0 :: x1 :: x2 :: x3 :: x4 :: x5 :: x6 :: a :: L) G) : St w0 F0 w (a :: x0 :: x1 :: x2 :: x3 :: x4 :: x5 :: x6 :: L) G := h.perm (List.perm_middle (l₁ := [x0, x1, x2, x3, x4, x5, x6]))
theorem St.dn7 {x0 x1 x2 x3 x4 x5 x6 a : Res} (h : St w0 F0 w (a :: x0 :: x1 :: x2 :: x3 :: x4 :: x5 :: x6 :: L) G) : St w0 F0 w (x0 :: x1 :: x2 :: x3 :: x4 :: x5 :: x6 :: a :: L) G := h.perm (List.perm_middle (l₁ := [x0, x1, x2, x3, x4, x5, x6])).symm
theorem St.up_8 {x0 x1 x2 x3 x4 x5 x6 x7 a : Res} (h : St w0 F0 w (x0 :: x1 :: x2 :: x3 :: x4 :: x5 :: x6 :: x7 :: a :: L) G) : St w0 F0 w (a :: x0 :: x1 :: x2 :: x3 :: x4 :: x5 :: x6 :: x7 :: L) G := h.perm (List.perm_middle (l₁ := [x0, x1, x2, x3, x4, x5, x6, x7]))
theorem St.dn8 {x0 x1 x2 x3 x4 x5 x6 x7 a : Res} (h : St w0 F0 w (a :: x0 :: x1 :: x2 :: x3 :: x4 :: x5 :: x6 :: x7 :: L) G) : St w0 F0 w (x0 :: x1 :: x2 :: x3 :: x4 :: x5 :: x6 :: x7 :: a :: L) G := h.perm (List.perm_middle (l₁ := [x0, x1, x2, x3, x4, x5, x6, x7])).symm
theorem St.cx (h : St w0 F0 w L G) (n : Nat) : Ctx w0 F0 (L.drop n) G w := ⟨L.take n, [], by rw [List.take_append_drop]; exact h⟩
theorem St.cxg (h : St w0 F0 w L G) (n m : Nat) : Ctx w0 F0 (L.drop n) (G.drop m) w := ⟨L.take n, G.take m, by rw [List.take_append_drop, List.take_append_drop]; exact h⟩
theorem X.ret {f : FuncId} {xs : Array Operand} {tys : Array TypeId} {w1 : World} {F1 : List Nat} {L' G' : List Res} {v : Value} {args : Array Value} (hfc : ∀ args w, (callFunc f args).run P w = .ok (.enter f args) w) (h : Calls P f args w fun e w' => e = .returned v ∧ St w1 F1 w' L' G')
  (hv : (xs.toList.map (ev ρ)).toArray = args) {K : Value → World → Prop} (k : ∀ w', St w1 F1 w' L' G' → K v w') : X P ρ w (.call { callee := .value (.func f), args := xs, argTypes := tys }) ty K :=
 X.call hfc rfl (Ab h hv fun _ w' ⟨h1, h2⟩ => ⟨v, h1, k w' h2⟩)
theorem X.retB {f : FuncId} {xs : Array Operand} {tys : Array TypeId} {w1 : World} {F1 : List Nat} {L' G' : List Res} {p : Prop} [Decidable p] {args : Array Value} (hfc : ∀ args w, (callFunc f args).run P w = .ok (.enter f args) w) (h : Calls P f args w fun e w' => ∃ b, e = .returned (.bool b) ∧ b = decide p ∧ St w1 F1 w' L' G')
  (hv : (xs.toList.map (ev ρ)).toArray = args) {K : Value → World → Prop} (k : ∀ b w', b = decide p → St w1 F1 w' L' G' → K (.bool b) w') : X P ρ w (.call { callee := .value (.func f), args := xs, argTypes := tys }) ty K :=
 X.call hfc rfl (Ab h hv fun _ w' ⟨b, h1, h2, h3⟩ => ⟨_, h1, k b w' h2 h3⟩)
theorem X.litsS (I : St w0 F0 w L G) {e : TypeId} {len m : Nat} {parts : Array (Nat × Operand)} (ht : P.underlying t = some (.slice e)) (hs : ∀ w, (sizeOf e).run P w = .ok m w) {z : Value} (hz : ∀ w, (zeroValue e).run P w = .ok z w)
  (hl : Nat.ble (len * m) 16777216 = true) {vals : List (Nat × Value)} (hp : (parts.toList.map fun x => (x.1, ev ρ x.2)) = vals) {cs : List Value} (hc : El m len (if len * m = 0 then #[] else z.cells) vals = some cs.toArray)
  {K : Value → World → Prop} (k : ∀ b w', St w0 F0 w' (Aa b cs e :: L) G → K (.slice (some ⟨b, 0, none⟩) len len) w') : X P ρ w (.buildSlice t len parts) ty K := by
 intro a ops Q o ho _ ha hw; refine Ka I hw ho ht hs hz (Nat.le_of_ble_eq_true hl) (cs := cs) ?_ ?_
 ·rw [ha, hp]; exact hc
 ·intro b w' h; exact ⟨_, O, k b w' h⟩
theorem Bt1 (z : Array Value) (a b c d e f : Value) : El 2 3 z [(0, .agg #[a, b]), (1, .agg #[c, d]), (2, .agg #[e, f])] = some [a, b, c, d, e, f].toArray := by
 unfold El; have hl : ((Array.range (3 * 2)).map (z[· % z.size]!)).toList.length = 6 := by simp
 generalize (Array.range (3 * 2)).map (z[· % z.size]!) = arr at hl; obtain ⟨l⟩ := arr
 match l, hl with
 | [x0, x1, x2, x3, x4, x5], _ => rfl
theorem Bd (hag : ∀ w, (isAgg t).run P w = .ok true w) {m : Nat} (hsz : ∀ w, (sizeOf t).run P w = .ok m w) (j : Nat) {p : Nat} {ms : List Value} {e : TypeId} (I : St w0 F0 w L G) (hL : L[j]? = some (Aa p ms e)) (hm : ms.length = m) : (loadVar t ⟨p, 0, none⟩).run P w = .ok (.agg ms.toArray) w :=
 Dp (w := w) (ad := ⟨p, 0, none⟩) (vs := ms) hag hsz hm (fun j' v h => by rw [B6, I.cell (.inl (List.mem_of_getElem? hL)) (0 + j'), Nat.zero_add]; exact h)
end
end
end Go.Proofs.YtaanjifekgfemaaGreat.K
namespace Go.Proofs.YtaanjifekgfemaaGreat.Cl
section
open Tryz Go.RowKit YtaanjifekgfemaaGreat.K YtaanjifekgfemaaGreat.W
theorem Aj {i j : Int} (h : i = j) : Ending.returned (.int .i64 i) = .returned (.int .i64 j) := by rw [h]
theorem Rb {α : Type} (f : α → Int → α) (a : α) {l : List Int} {k : Nat} (h : k < l.length) : (l.take (k + 1)).foldl f a = f ((l.take k).foldl f a) (l.getD k 0) := by
 rw [List.take_succ_eq_append_getElem h, List.foldl_append]; simp [h]
theorem Am1 {l : List Int} {k : Nat} (h : k < l.length) : Bb (l.take (k + 1)) = Ak (Bb (l.take k) + Ak (l.getD k 0)) := Rb _ _ h
theorem Aq4 {l : List Int} {k : Nat} (h : k < l.length) : Dy (l.take (k + 1)) = max (Dy (l.take k)) (Ak (l.getD k 0)) := Rb _ _ h
theorem Bd5 (l : List Int) : -2305843009213693952 ≤ Dy l ∧ Dy l ≤ 2305843009213693952 := by
 unfold Dy
 have : ∀ (l : List Int) (a : Int), (-2305843009213693952 ≤ a ∧ a ≤ 2305843009213693952) → -2305843009213693952 ≤ l.foldl (fun n x => max n (Ak x)) a ∧ l.foldl (fun n x => max n (Ak x)) a ≤ 2305843009213693952 := by
  intro l
  induction l with
  | nil => intro a h; exact h
  | cons x l ih => intro a h; have := Bw x; exact ih _ (by show _ ≤ max a (Ak x) ∧ max a (Ak x) ≤ _; omega)
 exact this l _ (by omega)
theorem Ak3 {x y : Int} (hx : 0 ≤ x ∧ x ≤ 2305843009213693952) (hy : 0 ≤ y ∧ y ≤ 2305843009213693952) (h : x = 0 ∨ y ≤ 2305843009213693952 / x) : 0 ≤ x * y ∧ x * y ≤ 2305843009213693952 := by
 have := Fu hx hy; unfold Da at this; rwa [if_pos h] at this
theorem Gt : CF 38 := fun _ _ => by simp [go_sem]
theorem Nv : CF 39 := fun _ _ => by simp [go_sem]
theorem Aw1 : CF 67 := fun _ _ => by simp [go_sem]
theorem An4 : CF 75 := fun _ _ => by simp [go_sem]
theorem C1 (x : Int) (lo : Int) (hi : Int) (w0 w : World) (F0 : List Nat) (L G : List Res) (I : St w0 F0 w L G)  :
  Calls Tryz.prog 39 #[.int .i64 x, .int .i64 lo, .int .i64 hi] w fun e w' => e = .returned (.int .i64 (Bg x lo hi)) ∧ St w0 F0 w' L G := by
 refine W.func func39 O ntmps39 O<|Wh O<|I.a O O<|Od O<|Wq O<|Wb O<|Wh O<|I.u O O<|I.u O O<|I.v O O O (fun b10 hb10 => I.b O O<|?_); cases b10
 ·replace hb10 := dF hb10; refine I.u O O<|I.u O O<|I.v O O O (fun b14 hb14 => I.k O O O<|I.g O O<|Od O<|?_); cases b14
  ·replace hb14 := dF hb14; refine Wu O O<|Wh O<|I.u O O<|I.u O O<|I.V O O O (fun b20 hb20 => I.g O O<|Od O<|?_); cases b20
   ·replace hb20 := dF hb20; refine Wu O O<|Wk O<|Wh O<|I.u O O<|I.a O O<|Od O<|We O<|⟨_, Ac.one results39 O, ?_⟩; exact ⟨Aj (by unfold Bg; repeat' split <;> omega), I⟩
   ·replace hb20 := dT hb20; refine Wt O O<|Wh O<|I.u O O<|I.a O O<|Od O<|We O<|⟨_, Ac.one results39 O, ?_⟩; exact ⟨Aj (by unfold Bg; repeat' split <;> omega), I⟩
  ·replace hb14 := dT hb14; refine Wt O O<|Wh O<|I.u O O<|I.a O O<|Od O<|We O<|⟨_, Ac.one results39 O, ?_⟩; exact ⟨Aj (by unfold Bg; repeat' split <;> omega), I⟩
 ·replace hb10 := dT hb10; refine On O<|On O<|On O<|I.k O O O<|I.g O O<|Od O<|Wt O O<|Wh O<|I.u O O<|I.a O O<|Od O<|We O<|⟨_, Ac.one results39 O, ?_⟩; exact ⟨Aj (by unfold Bg; repeat' split <;> omega), I⟩
theorem Bu (x : Int) (w0 w : World) (F0 : List Nat) (L G : List Res) (I : St w0 F0 w L G)  :
  Calls Tryz.prog 38 #[.int .i64 x] w fun e w' => e = .returned (.int .i64 (Ak x)) ∧ St w0 F0 w' L G := by
 refine W.func func38 O ntmps38 O<|Wh O<|I.a O O<|Ds O O<|I.u O O<|Ow O (X.ret Nv (C1 _ _ _ _ _ _ _ _ I ) O fun _ I => I.a O O<|Od O<|We O<|⟨_, Ac.one results38 O, ?_⟩); exact ⟨O, I⟩
theorem Ap (l : List Int) (A : Option Addr) (cap : Nat) (hl : l.length ≤ 9223372036854775807) (w0 w : World) (F0 : List Nat) (L G : List Res) (I : St w0 F0 w L G) (hr : Rds L G (.slice A l.length cap) l.length (ivs l)) :
  Calls Tryz.prog 27 #[.slice A l.length cap] w fun e w' => e = .returned (.int .i64 (Bb l)) ∧ St w0 F0 w' L G := by
 refine W.func func27 O ntmps27 O<|Wh O<|I.a O O<|Ds O O<|I.a O O<|Od O<|Wq O<|Wh O<|I.s O O<|I.y O (Y.lenS underlying24 O)<|I.u O O<|Od O<|Wb O<|?_; refine W.loop (γ := Nat) [(6, .slice _ _ _), (7, .int _ _)] (fun k => [(3, .int .i64 (Bb (l.take k))), (8, .int .i64 (k : Int))]) (fun k w => k ≤ l.length ∧ St w0 F0 w L G) (fun k => l.length - k) (0) O ⟨O, O, trivial⟩ ?_ ?_ ?_
 ·exact ⟨O, O, trivial⟩
 ·exact ⟨by omega, I⟩
 ·clear I; rintro k j w3 ⟨hk, I⟩; refine Wh O<|I.v O O O (fun b9 hb9 => Od O<|Wq O<|?_); cases b9
  ·replace hb9 := dF hb9; refine Wu O O<|W.exit O<|Wq O<|?_; have hk1 : k = l.length := by omega
   refine Wr O<|I.u O O<|I.a O O<|Od O<|We O<|⟨_, Ac.one results27 O, ?_⟩; exact ⟨Aj (by rw [hk1, List.take_length]), I⟩
  ·replace hb9 := dT hb9; refine Wt O O<|Wk O<|Wq O<|Wb O<|Wq O<|?_; have hk1 : k < l.length := by omega
   have hin := Ga (l.take k); have hc := Bw (l.getD k 0); refine Wr rfl<|I.y rfl (Y.indexAddr underlying24 sizeOf3 rfl rfl ((hr.sl I).ne (by simp [ivs]; omega)) (by omega))<|?_; refine I.y O (Y.loadSl isAgg3 O hr (Ef hk1))<|I.a O O<|Od O<|Wr O<|I.u O O<|I.u O O<|Ow O (X.ret Gt (Bu _ _ _ _ _ _ I ) O fun _ I => I.j O O O (by omega)<|Ow O (X.ret Gt (Bu _ _ _ _ _ _ I ) O fun _ I => I.a O O<|Od O<|Wr O<|I.j O O O (by omega)<|I.u O O<|Od O<|?_)); exact ⟨k + 1, ⟨congrArg (Value.int .i64) (Am1 hk1).symm, O, trivial⟩, ⟨O, O, trivial⟩, ⟨by omega, I⟩, by omega⟩
theorem A05 (l : List Int) (A : Option Addr) (cap : Nat) (hl : l.length ≤ 9223372036854775807) (w0 w : World) (F0 : List Nat) (L G : List Res) (I : St w0 F0 w L G) (hr : Rds L G (.slice A l.length cap) l.length (ivs l)) :
  Calls Tryz.prog 142 #[.slice A l.length cap] w fun e w' => e = .returned (.int .i64 (Dy l)) ∧ St w0 F0 w' L G := by
 refine W.func func142 O ntmps142 O<|Wh O<|I.a O O<|Ds O O<|I.a O O<|Od O<|Wq O<|Wh O<|I.s O O<|I.y O (Y.lenS underlying24 O)<|I.u O O<|Od O<|Wb O<|?_; refine W.loop (γ := Nat) [(6, .slice _ _ _), (7, .int _ _)] (fun k => [(3, .int .i64 (Dy (l.take k))), (8, .int .i64 (k : Int))]) (fun k w => k ≤ l.length ∧ St w0 F0 w L G) (fun k => l.length - k) (0) O ⟨O, O, trivial⟩ ?_ ?_ ?_
 ·exact ⟨O, O, trivial⟩
 ·exact ⟨by omega, I⟩
 ·clear I; rintro k j w3 ⟨hk, I⟩; refine Wh O<|I.v O O O (fun b9 hb9 => Od O<|Wq O<|?_); cases b9
  ·replace hb9 := dF hb9; refine Wu O O<|W.exit O<|Wq O<|?_; have hk1 : k = l.length := by omega
   refine Wr O<|I.u O O<|I.a O O<|Od O<|We O<|⟨_, Ac.one results142 O, ?_⟩; exact ⟨Aj (by rw [hk1, List.take_length]), I⟩
  ·replace hb9 := dT hb9; refine Wt O O<|Wk O<|Wq O<|Wb O<|Wq O<|?_; have hk1 : k < l.length := by omega
   have hin := Bd5 (l.take k); have hc := Bw (l.getD k 0); refine Wr rfl<|I.y rfl (Y.indexAddr underlying24 sizeOf3 rfl rfl ((hr.sl I).ne (by simp [ivs]; omega)) (by omega))<|?_; refine I.y O (Y.loadSl isAgg3 O hr (Ef hk1))<|I.a O O<|Od O<|Wr O<|I.u O O<|I.u O O<|Ow O (X.ret Gt (Bu _ _ _ _ _ _ I ) O fun _ I => I.y O (Y.max2 O O)<|I.a O O<|Od O<|Wr O<|I.j O O O (by omega)<|I.u O O<|Od O<|?_); exact ⟨k + 1, ⟨congrArg (Value.int .i64) (Aq4 hk1).symm, O, trivial⟩, ⟨O, O, trivial⟩, ⟨by omega, I⟩, by omega⟩
theorem Ge (a : Int) (b : Int) (w0 w : World) (F0 : List Nat) (L G : List Res) (I : St w0 F0 w L G)  :
  Calls Tryz.prog 53 #[.int .i64 a, .int .i64 b] w fun e w' => e = .returned (.int .i64 (sub a b)) ∧ St w0 F0 w' L G := by
 refine W.func func53 O ntmps53 O<|Wh O<|I.a O O<|Od O<|Wq O<|?_; have ha := Bw a; have hb := Bw b; refine Wr O<|I.u O O<|Ow O (X.ret Gt (Bu _ _ _ _ _ _ I ) O fun _ I => I.u O O<|Ow O (X.ret Gt (Bu _ _ _ _ _ _ I ) O fun _ I => I.y O (Y.subI O O (by omega))<|Ow O (X.ret Gt (Bu _ _ _ _ _ _ I ) O fun _ I => I.a O O<|Od O<|We O<|⟨_, Ac.one results53 O, ?_⟩))); exact ⟨O, I⟩
theorem Lj (a : Int) (w0 w : World) (F0 : List Nat) (L G : List Res) (I : St w0 F0 w L G)  :
  Calls Tryz.prog 75 #[.int .i64 a] w fun e w' => e = .returned (.int .i64 (neg a)) ∧ St w0 F0 w' L G := by
 refine W.func func75 O ntmps75 O<|Wh O<|I.a O O<|Od O<|Wq O<|?_; have ha := Bw a; refine Wr O<|I.u O O<|Ow O (X.ret Gt (Bu _ _ _ _ _ _ I ) O fun _ I => I.y O (Y.negI O (by omega))<|I.a O O<|Od O<|We O<|⟨_, Ac.one results75 O, ?_⟩); exact ⟨O, I⟩
theorem Nd (a : Int) (w0 w : World) (F0 : List Nat) (L G : List Res) (I : St w0 F0 w L G)  :
  Calls Tryz.prog 67 #[.int .i64 a] w fun e w' => e = .returned (.int .i64 (mag a)) ∧ St w0 F0 w' L G := by
 refine W.func func67 O ntmps67 O<|Wh O<|I.a O O<|Od O<|Wq O<|Wh O<|I.u O O<|I.v O O O (fun b4 hb4 => Od O<|?_); cases b4
 ·replace hb4 := dF hb4; refine Wu O O<|Wk O<|Wh O<|I.u O O<|Ow O (X.ret Gt (Bu _ _ _ _ _ _ I ) O fun _ I => I.a O O<|Od O<|We O<|⟨_, Ac.one results67 O, ?_⟩); exact ⟨Aj (by unfold mag; split <;> first | rfl | omega), I⟩
 ·replace hb4 := dT hb4; refine Wt O O<|Wh O<|I.u O O<|Ow O (X.ret An4 (Lj _ _ _ _ _ _ I ) O fun _ I => I.a O O<|Od O<|We O<|⟨_, Ac.one results67 O, ?_⟩); exact ⟨Aj (by unfold mag; split <;> first | rfl | omega), I⟩
theorem Dl (a : Int) (b : Int) (w0 w : World) (F0 : List Nat) (L G : List Res) (I : St w0 F0 w L G)  :
  Calls Tryz.prog 45 #[.int .i64 a, .int .i64 b] w fun e w' => e = .returned (.int .i64 (mul a b)) ∧ St w0 F0 w' L G := by
 refine W.func func45 O ntmps45 O<|Wh O<|I.a O O<|Ds O O<|I.u O O<|Ow O (X.ret Aw1 (Nd _ _ _ _ _ _ I ) O fun _ I => I.u O O<|Ow O (X.ret Aw1 (Nd _ _ _ _ _ _ I ) O fun _ I => I.a O O<|I.a O O<|Ds O O<|I.a O O<|Od O<|Wq O<|Wq O<|?_)); have ha := Oh a; have hb := Oh b; refine Wr O<|I.u O O<|I.Y O O O (fun b13 hb13 => I.b O O<|?_); cases b13
 ·replace hb13 := dF hb13; refine I.u O O<|I.u O O<|I.y O (Y.quoI O O (by omega))<|I.X O O O (fun b18 hb18 => I.k O O O<|Od O<|?_); refine W.cut [(0, .int _ _), (1, .int _ _)] (fun _ : Unit => [(7, .int .i64 (Da (mag a) (mag b)))]) (fun _ w => St w0 F0 w L G) ⟨O, O, trivial⟩ ?_ ?_
  rotate_left
  ·clear I; rintro _ j w3 I; refine Wq O<|Wh O<|I.u O O<|I.v O O O (fun b24 hb24 => ?_); cases b24
   ·replace hb24 := dF hb24; refine I.u O O<|I.v O O O (fun b26 hb26 => ?_); cases b26
    ·replace hb26 := dF hb26; refine I.yb O (Y.neB underlying4 O O) (fun b27 hb27 => Od O<|?_); cases b27
     ·replace hb27 := dF hb27; refine Wu O O<|Wk O<|Wh O<|I.u O O<|I.a O O<|Od O<|We O<|⟨_, Ac.one results45 O, ?_⟩; refine ⟨Aj ?_, I⟩; unfold mul; split <;> first | with_reducible rfl | (exfalso; omega) | exact absurd (by decide) hb27
     ·replace hb27 := dT hb27; refine Wt rfl rfl<|Wh rfl<|I.u rfl rfl<|I.y rfl (Y.negI rfl (by have := Fu ha hb; omega))<|?_; refine I.a O O<|Od O<|We O<|⟨_, Ac.one results45 O, ?_⟩; refine ⟨Aj ?_, I⟩; unfold mul; split <;> first | with_reducible rfl | (exfalso; omega) | exact absurd (by decide) hb27
    ·replace hb26 := dT hb26; refine I.yb O (Y.neB underlying4 O O) (fun b27 hb27 => Od O<|?_); cases b27
     ·replace hb27 := dF hb27; refine Wu O O<|Wk O<|Wh O<|I.u O O<|I.a O O<|Od O<|We O<|⟨_, Ac.one results45 O, ?_⟩; refine ⟨Aj ?_, I⟩; unfold mul; split <;> first | with_reducible rfl | (exfalso; omega) | exact absurd (by decide) hb27
     ·replace hb27 := dT hb27; refine Wt rfl rfl<|Wh rfl<|I.u rfl rfl<|I.y rfl (Y.negI rfl (by have := Fu ha hb; omega))<|?_; refine I.a O O<|Od O<|We O<|⟨_, Ac.one results45 O, ?_⟩; refine ⟨Aj ?_, I⟩; unfold mul; split <;> first | with_reducible rfl | (exfalso; omega) | exact absurd (by decide) hb27
   ·replace hb24 := dT hb24; refine I.u O O<|I.v O O O (fun b26 hb26 => ?_); cases b26
    ·replace hb26 := dF hb26; refine I.yb O (Y.neB underlying4 O O) (fun b27 hb27 => Od O<|?_); cases b27
     ·replace hb27 := dF hb27; refine Wu O O<|Wk O<|Wh O<|I.u O O<|I.a O O<|Od O<|We O<|⟨_, Ac.one results45 O, ?_⟩; refine ⟨Aj ?_, I⟩; unfold mul; split <;> first | with_reducible rfl | (exfalso; omega) | exact absurd (by decide) hb27
     ·replace hb27 := dT hb27; refine Wt rfl rfl<|Wh rfl<|I.u rfl rfl<|I.y rfl (Y.negI rfl (by have := Fu ha hb; omega))<|?_; refine I.a O O<|Od O<|We O<|⟨_, Ac.one results45 O, ?_⟩; refine ⟨Aj ?_, I⟩; unfold mul; split <;> first | with_reducible rfl | (exfalso; omega) | exact absurd (by decide) hb27
    ·replace hb26 := dT hb26; refine I.yb O (Y.neB underlying4 O O) (fun b27 hb27 => Od O<|?_); cases b27
     ·replace hb27 := dF hb27; refine Wu O O<|Wk O<|Wh O<|I.u O O<|I.a O O<|Od O<|We O<|⟨_, Ac.one results45 O, ?_⟩; refine ⟨Aj ?_, I⟩; unfold mul; split <;> first | with_reducible rfl | (exfalso; omega) | exact absurd (by decide) hb27
     ·replace hb27 := dT hb27; refine Wt rfl rfl<|Wh rfl<|I.u rfl rfl<|I.y rfl (Y.negI rfl (by have := Fu ha hb; omega))<|?_; refine I.a O O<|Od O<|We O<|⟨_, Ac.one results45 O, ?_⟩; refine ⟨Aj ?_, I⟩; unfold mul; split <;> first | with_reducible rfl | (exfalso; omega) | exact absurd (by decide) hb27
  cases b18
  ·replace hb18 := dF hb18; refine Wu O O<|Wk O<|?_; refine ⟨(), ⟨congrArg (Value.int .i64) (by unfold Da; first | rw [if_pos (by omega)] | rw [if_neg (by omega)]), trivial⟩, ⟨rfl, rfl, trivial⟩, I⟩
  ·replace hb18 := dT hb18; refine Wt rfl rfl<|Wr rfl<|I.u rfl rfl<|I.u rfl rfl<|I.y rfl (Y.mulI rfl rfl (by have := Ak3 ha hb (by omega); omega))<|?_; refine I.a O O<|Od O<|?_; refine ⟨(), ⟨congrArg (Value.int .i64) (by unfold Da; first | rw [if_pos (by omega)] | rw [if_neg (by omega)]), trivial⟩, ⟨rfl, rfl, trivial⟩, I⟩
 ·replace hb13 := dT hb13; refine On O<|On O<|On O<|On O<|I.k O O O<|Od O<|?_; refine W.cut [(0, .int _ _), (1, .int _ _)] (fun _ : Unit => [(7, .int .i64 (Da (mag a) (mag b)))]) (fun _ w => St w0 F0 w L G) ⟨O, O, trivial⟩ ?_ ?_
  rotate_left
  ·clear I; rintro _ j w3 I; refine Wq O<|Wh O<|I.u O O<|I.v O O O (fun b24 hb24 => ?_); cases b24
   ·replace hb24 := dF hb24; refine I.u O O<|I.v O O O (fun b26 hb26 => ?_); cases b26
    ·replace hb26 := dF hb26; refine I.yb O (Y.neB underlying4 O O) (fun b27 hb27 => Od O<|?_); cases b27
     ·replace hb27 := dF hb27; refine Wu O O<|Wk O<|Wh O<|I.u O O<|I.a O O<|Od O<|We O<|⟨_, Ac.one results45 O, ?_⟩; refine ⟨Aj ?_, I⟩; unfold mul; split <;> first | with_reducible rfl | (exfalso; omega) | exact absurd (by decide) hb27
     ·replace hb27 := dT hb27; refine Wt rfl rfl<|Wh rfl<|I.u rfl rfl<|I.y rfl (Y.negI rfl (by have := Fu ha hb; omega))<|?_; refine I.a O O<|Od O<|We O<|⟨_, Ac.one results45 O, ?_⟩; refine ⟨Aj ?_, I⟩; unfold mul; split <;> first | with_reducible rfl | (exfalso; omega) | exact absurd (by decide) hb27
    ·replace hb26 := dT hb26; refine I.yb O (Y.neB underlying4 O O) (fun b27 hb27 => Od O<|?_); cases b27
     ·replace hb27 := dF hb27; refine Wu O O<|Wk O<|Wh O<|I.u O O<|I.a O O<|Od O<|We O<|⟨_, Ac.one results45 O, ?_⟩; refine ⟨Aj ?_, I⟩; unfold mul; split <;> first | with_reducible rfl | (exfalso; omega) | exact absurd (by decide) hb27
     ·replace hb27 := dT hb27; refine Wt rfl rfl<|Wh rfl<|I.u rfl rfl<|I.y rfl (Y.negI rfl (by have := Fu ha hb; omega))<|?_; refine I.a O O<|Od O<|We O<|⟨_, Ac.one results45 O, ?_⟩; refine ⟨Aj ?_, I⟩; unfold mul; split <;> first | with_reducible rfl | (exfalso; omega) | exact absurd (by decide) hb27
   ·replace hb24 := dT hb24; refine I.u O O<|I.v O O O (fun b26 hb26 => ?_); cases b26
    ·replace hb26 := dF hb26; refine I.yb O (Y.neB underlying4 O O) (fun b27 hb27 => Od O<|?_); cases b27
     ·replace hb27 := dF hb27; refine Wu O O<|Wk O<|Wh O<|I.u O O<|I.a O O<|Od O<|We O<|⟨_, Ac.one results45 O, ?_⟩; refine ⟨Aj ?_, I⟩; unfold mul; split <;> first | with_reducible rfl | (exfalso; omega) | exact absurd (by decide) hb27
     ·replace hb27 := dT hb27; refine Wt rfl rfl<|Wh rfl<|I.u rfl rfl<|I.y rfl (Y.negI rfl (by have := Fu ha hb; omega))<|?_; refine I.a O O<|Od O<|We O<|⟨_, Ac.one results45 O, ?_⟩; refine ⟨Aj ?_, I⟩; unfold mul; split <;> first | with_reducible rfl | (exfalso; omega) | exact absurd (by decide) hb27
    ·replace hb26 := dT hb26; refine I.yb O (Y.neB underlying4 O O) (fun b27 hb27 => Od O<|?_); cases b27
     ·replace hb27 := dF hb27; refine Wu O O<|Wk O<|Wh O<|I.u O O<|I.a O O<|Od O<|We O<|⟨_, Ac.one results45 O, ?_⟩; refine ⟨Aj ?_, I⟩; unfold mul; split <;> first | with_reducible rfl | (exfalso; omega) | exact absurd (by decide) hb27
     ·replace hb27 := dT hb27; refine Wt rfl rfl<|Wh rfl<|I.u rfl rfl<|I.y rfl (Y.negI rfl (by have := Fu ha hb; omega))<|?_; refine I.a O O<|Od O<|We O<|⟨_, Ac.one results45 O, ?_⟩; refine ⟨Aj ?_, I⟩; unfold mul; split <;> first | with_reducible rfl | (exfalso; omega) | exact absurd (by decide) hb27
  refine Wt rfl rfl<|Wr rfl<|I.u rfl rfl<|I.u rfl rfl<|I.y rfl (Y.mulI rfl rfl (by have := Ak3 ha hb (by omega); omega))<|?_; refine I.a O O<|Od O<|?_; refine ⟨(), ⟨congrArg (Value.int .i64) (by unfold Da; first | rw [if_pos (by omega)] | rw [if_neg (by omega)]), trivial⟩, ⟨rfl, rfl, trivial⟩, I⟩
end
section
open Tryz Go.RowKit YtaanjifekgfemaaGreat.K YtaanjifekgfemaaGreat.W
attribute [local irreducible] Bg Ak Bb sub neg mag Da mul Dy
theorem Mr {S ρ ty} {parts : Array (Nat × Operand)}  (hp : (parts.toList.map fun x => (x.1, ev ρ x.2)) = []) : Y Tryz.prog S ρ (.build 53 parts) ty (.agg #[.int .i64 0, .int .i64 0]) :=
 Y.build hp fun w => by simp [Instr.build, go_sem]
theorem Hq {S ρ ty} {parts : Array (Nat × Operand)} {x0 x1 : Int} (hp : (parts.toList.map fun x => (x.1, ev ρ x.2)) = [(0, .int .i64 x0), (1, .int .i64 x1)]) : Y Tryz.prog S ρ (.build 53 parts) ty (.agg #[.int .i64 x0, .int .i64 x1]) :=
 Y.build hp fun w => by simp [Instr.build, go_sem]
theorem I4 : FA 23 2 2 := fun _ _ => by simp [Instr.fieldAt, Instr.sureAddr, go_sem]
theorem F4 : FA 23 4 4 := fun _ _ => by simp [Instr.fieldAt, Instr.sureAddr, go_sem]
theorem N1 : FA 23 5 5 := fun _ _ => by simp [Instr.fieldAt, Instr.sureAddr, go_sem]
theorem Vo : FA 23 6 6 := fun _ _ => by simp [Instr.fieldAt, Instr.sureAddr, go_sem]
theorem L9 : FA 23 7 7 := fun _ _ => by simp [Instr.fieldAt, Instr.sureAddr, go_sem]
theorem Vq : FA 23 9 9 := fun _ _ => by simp [Instr.fieldAt, Instr.sureAddr, go_sem]
theorem Ahx : FA 23 10 10 := fun _ _ => by simp [Instr.fieldAt, Instr.sureAddr, go_sem]
theorem Fm : FA 53 0 0 := fun _ _ => by simp [Instr.fieldAt, Instr.sureAddr, go_sem]
theorem Fb : FA 53 1 1 := fun _ _ => by simp [Instr.fieldAt, Instr.sureAddr, go_sem]
theorem Dr : CF 27 := fun _ _ => by simp [go_sem]
theorem Kn : CF 45 := fun _ _ => by simp [go_sem]
theorem Br8 : CF 46 := fun _ _ => by simp [go_sem]
theorem S9 : CF 53 := fun _ _ => by simp [go_sem]
theorem Bs0 : CF 68 := fun _ _ => by simp [go_sem]
theorem Aw2 : CF 69 := fun _ _ => by simp [go_sem]
theorem Bv7 : CF 70 := fun _ _ => by simp [go_sem]
theorem Qx : CF 129 := fun _ _ => by simp [go_sem]
theorem Bo9 : CF 142 := fun _ _ => by simp [go_sem]
theorem A1q (lo : Int) (hi : Int) (w0 w : World) (F0 : List Nat) (L G : List Res) (I : St w0 F0 w L G)  :
  Calls Tryz.prog 35 #[.int .i64 lo, .int .i64 hi] w fun e w' => e = .returned (.agg #[.int .i64 (Sp.of lo hi).lo, .int .i64 (Sp.of lo hi).hi]) ∧ St w0 F0 w' L G := by
 refine W.func func35 O ntmps35 O<|Wh O<|Ow O (X.allocA I zeroValue53 fun p4 w4 I => Ds O O<|I.u O O<|Ow O (X.ret Gt (Bu _ _ _ _ _ _ I ) O fun _ I => I.u O O<|Ow O (X.ret Gt (Bu _ _ _ _ _ _ I ) O fun _ I => I.y O (Hq O)<|Ow O (X.storeS I 0 sizeOf53 O O O O O (lZ O) O O fun _ I => Od O<|We O<|⟨_, Ac.cell results35 O (Bd isAgg53 sizeOf53 0 I O O), ?_⟩)))); exact ⟨O, (I.dr 1)⟩
theorem Ld (slo shi : Int) (w0 w : World) (F0 : List Nat) (L G : List Res) (I : St w0 F0 w L G)  :
  Calls Tryz.prog 36 #[.agg #[.int .i64 slo, .int .i64 shi]] w fun e w' => ∃ b, e = .returned (.bool b) ∧ b = decide (shi < slo) ∧ St w0 F0 w' L G := by
 refine W.func func36 O ntmps36 O<|Wh O<|Ow O (X.boxA I O fun p1 w1 I => I.g O O<|Ds O O<|I.f Fm O O<|I.l 0 O O O O<|I.f Fb O O<|I.l 0 O O O O<|I.V O O O (fun b7 hb7 => I.g O O<|Od O<|We O<|⟨_, Ac.one results36 O, ?_⟩)); exact ⟨_, O, by assumption, (I.dr 1)⟩
theorem A88  (w0 w : World) (F0 : List Nat) (L G : List Res) (I : St w0 F0 w L G)  :
  Calls Tryz.prog 37 #[] w fun e w' => e = .returned (.agg #[.int .i64 (Sp.all).lo, .int .i64 (Sp.all).hi]) ∧ St w0 F0 w' L G := by
 refine W.func func37 O ntmps37 O<|Wh O<|Ow O (X.allocA I zeroValue53 fun p0 w0 I => Ds O O<|I.y O (Hq O)<|Ow O (X.storeS I 0 sizeOf53 O O O O O (lZ O) O O fun _ I => Od O<|We O<|⟨_, Ac.cell results37 O (Bd isAgg53 sizeOf53 0 I O O), ?_⟩)); exact ⟨O, (I.dr 1)⟩
theorem F8 (slo shi : Int) (lo : Int) (hi : Int) (w0 w : World) (F0 : List Nat) (L G : List Res) (I : St w0 F0 w L G)  :
  Calls Tryz.prog 129 #[.agg #[.int .i64 slo, .int .i64 shi], .int .i64 lo, .int .i64 hi] w fun e w' => e = .returned (.agg #[.int .i64 (Sp.shift ⟨slo, shi⟩ lo hi).lo, .int .i64 (Sp.shift ⟨slo, shi⟩ lo hi).hi]) ∧ St w0 F0 w' L G := by
 refine W.func func129 O ntmps129 O<|Wh O<|Ow O (X.boxA I O fun p3 w3 I => Ow O (X.allocA I zeroValue53 fun p6 w6 I => Od O<|Wq O<|W.drawn O (by kernel_rfl) (Ctx _ _ (_) (_)) [11] (.op 0 0 (.op 1 0 (.op 2 0 (.op 5 0 (.op 6 0 (.op 7 0 (.alt 3 (.alt 4 (.op 8 1 (.op 9 1 (.op 10 0 (.op 11 1 .nil)))) (.op 8 1 (.op 4 1 (.op 9 1 (.op 10 0 (.op 11 1 .nil)))))) (.op 8 1 (.op 3 1 (.op 4 1 (.op 9 1 (.op 10 0 (.op 11 1 .nil))))))))))))) O (by kernel_rfl) I.drew.ctx<|?_)); replace I := I.drew; generalize World.drew _ = wd at I ⊢; refine I.zf Fm O O<|I.zl 1 O O O O<|I.zu O O<|I.zf Fb O O<|I.zl 1 O O O O<|I.zu O O<|?_; refine Drw.alts (Alts.more ?_ (Alts.one ?_))
 ·refine One.ww O (Xl I (by rfl) (by rfl) (by rfl) [.int _ _, .int _ _] (by rfl) (by rfl) fun p10 w10 I => ⟨(I.cx 1), ?_⟩); refine Drw.alts (Alts.more ?_ (Alts.one ?_))
  ·refine One.ww O (X.ret Dr (Ap [slo, lo] _ _ (by simp) _ _ _ _ _ I (Rds.ofCells 0 O 2 2)) O fun w11 I => ⟨(I.cx 1), ?_⟩); refine Dw O (Xl I (by rfl) (by rfl) (by rfl) [.int _ _, .int _ _] (by rfl) (by rfl) fun p15 w15 I => ⟨(I.cx 2), ?_⟩); refine Dw O (X.ret Dr (Ap [shi, hi] _ _ (by simp) _ _ _ _ _ I (Rds.ofCells 0 O 2 2)) O fun w16 I => ⟨(I.cx 2), ?_⟩); refine Dq O (I.cx 2) (Hq O)<|Drw.z O O O O (X.storeS I 2 sizeOf53 O O O O O (lZ O) O O fun w1_11 I => Dd<|We O<|⟨_, Ac.cell results129 O (Bd isAgg53 sizeOf53 2 I O O), ?_⟩); exact ⟨O, (I.dr 4)⟩
  ·refine One.ww O (Xl I (by rfl) (by rfl) (by rfl) [.int _ _, .int _ _] (by rfl) (by rfl) fun p15 w15 I => ⟨(I.cx 2), ?_⟩); refine Dw O (X.ret Dr (Ap [slo, lo] _ _ (by simp) _ _ _ _ _ I (Rds.ofCells 1 O 2 2)) O fun w11 I => ⟨(I.cx 2), ?_⟩); refine Dw O (X.ret Dr (Ap [shi, hi] _ _ (by simp) _ _ _ _ _ I (Rds.ofCells 0 O 2 2)) O fun w16 I => ⟨(I.cx 2), ?_⟩); refine Dq O (I.cx 2) (Hq O)<|Drw.z O O O O (X.storeS I 2 sizeOf53 O O O O O (lZ O) O O fun w1_11 I => Dd<|We O<|⟨_, Ac.cell results129 O (Bd isAgg53 sizeOf53 2 I O O), ?_⟩); exact ⟨O, (I.dr 4)⟩
 ·refine One.ww O (Xl I (by rfl) (by rfl) (by rfl) [.int _ _, .int _ _] (by rfl) (by rfl) fun p15 w15 I => ⟨(I.cx 1), ?_⟩); refine Dw O (Xl I (by rfl) (by rfl) (by rfl) [.int _ _, .int _ _] (by rfl) (by rfl) fun p10 w10 I => ⟨(I.cx 2), ?_⟩); refine Dw O (X.ret Dr (Ap [slo, lo] _ _ (by simp) _ _ _ _ _ I (Rds.ofCells 0 O 2 2)) O fun w11 I => ⟨(I.cx 2), ?_⟩); refine Dw O (X.ret Dr (Ap [shi, hi] _ _ (by simp) _ _ _ _ _ I (Rds.ofCells 1 O 2 2)) O fun w16 I => ⟨(I.cx 2), ?_⟩); refine Dq O (I.cx 2) (Hq O)<|Drw.z O O O O (X.storeS I 2 sizeOf53 O O O O O (lZ O) O O fun w1_11 I => Dd<|We O<|⟨_, Ac.cell results129 O (Bd isAgg53 sizeOf53 2 I O O), ?_⟩); exact ⟨O, (I.dr 4)⟩
theorem Bd7 (slo shi : Int) (w0 w : World) (F0 : List Nat) (L G : List Res) (I : St w0 F0 w L G)  :
  Calls Tryz.prog 131 #[.agg #[.int .i64 slo, .int .i64 shi]] w fun e w' => e = .returned (.int .i64 (Sp.mid ⟨slo, shi⟩)) ∧ St w0 F0 w' L G := by
 refine W.func func131 O ntmps131 O<|Wh O<|Ow O (X.boxA I O fun p1 w1 I => I.a O O<|Od O<|Wq O<|?_); have hc1 := Bw slo; have hc2 := Bw shi; refine I.dv [] (T0 [0,1,3,4] (T1 [2,5] (T0 [6,7] .nil))) O (by kernel_rfl) O (by kernel_rfl) fun _ I => ?_; refine I.zf Fm O O<|I.zl 0 O O O O<|I.zf Fb O O<|I.zl 0 O O O O<|Dw O (X.ret Gt (Bu _ _ _ _ _ _ I ) O fun _ I => ⟨I.ctx, Dw O (X.ret Gt (Bu _ _ _ _ _ _ I ) O fun _ I => ⟨I.ctx, I.zj O O O (by omega)<|I.za O O<|Dd<|Wh O<|I.u O O<|I.y O (Y.shr O O (by omega))<|I.a O O<|Od O<|We O<|⟨_, Ac.one results131 O, ?_⟩⟩)⟩); exact ⟨Aj (by unfold Sp.mid; rw [Int.fdiv_eq_ediv_of_nonneg _ (by decide)]; rfl), (I.dr 1)⟩
theorem Fa (x : Int) (lo : Int) (hi : Int) (w0 w : World) (F0 : List Nat) (L G : List Res) (I : St w0 F0 w L G)  :
  Calls Tryz.prog 51 #[.int .i64 x, .int .i64 lo, .int .i64 hi] w fun e w' => ∃ b, e = .returned (.bool b) ∧ b = decide (lo ≤ x ∧ x ≤ hi) ∧ St w0 F0 w' L G := by
 refine W.func func51 O ntmps51 O<|Wh O<|I.g O O<|Ds O O<|I.u O O<|I.u O O<|I.X O O O (fun b9 hb9 => I.b O O<|?_); cases b9
 ·replace hb9 := dF hb9; refine On O<|On O<|On O<|I.k O O O<|I.g O O<|Od O<|We O<|⟨_, Ac.one results51 O, ?_⟩; exact ⟨_, O, by first | exact (decide_eq_true (by omega)).symm | exact (decide_eq_false (by omega)).symm, I⟩
 ·replace hb9 := dT hb9; refine I.u O O<|I.u O O<|I.X O O O (fun b13 hb13 => I.k O O O<|I.g O O<|Od O<|We O<|?_); cases b13
  ·replace hb13 := dF hb13; refine ⟨_, Ac.one results51 O, ?_⟩; exact ⟨_, O, by first | exact (decide_eq_true (by omega)).symm | exact (decide_eq_false (by omega)).symm, I⟩
  ·replace hb13 := dT hb13; refine ⟨_, Ac.one results51 O, ?_⟩; exact ⟨_, O, by first | exact (decide_eq_true (by omega)).symm | exact (decide_eq_false (by omega)).symm, I⟩
theorem M9 (p : Par) (w0 w : World) (F0 : List Nat) (L G : List Res) (I : St w0 F0 w L G)  :
  Calls Tryz.prog 69 #[.agg #[.int .i64 p.N, .int .i64 p.F, .int .i64 p.D, .int .i64 p.Beat, .int .i64 p.Rho, .int .i64 p.Delay, .int .i64 p.Jitter, .int .i64 p.Eps, .int .i64 p.Mu, .int .i64 p.Hold, .int .i64 p.Pulse, .int .i64 p.Second]] w fun e w' => e = .returned (.int .i64 (hop p)) ∧ St w0 F0 w' L G := by
 refine W.func func69 O ntmps69 O<|Wh O<|Ow O (X.boxA I O fun p1 w1 I => I.a O O<|Od O<|Wq O<|W.drawn O (by kernel_rfl) (Ctx _ _ (_) (_)) [] (.op 0 0 (.op 1 0 (.op 2 0 (.op 3 0 (.op 4 1 (.op 5 1 (.op 6 1 (.op 7 0 .nil)))))))) O (by kernel_rfl) I.drew.ctx<|?_); replace I := I.drew; generalize World.drew _ = wd at I ⊢; refine I.zf Vo O O<|I.zl 0 O O O O<|I.zf F4 O O<|I.zl 0 O O O O<|Dw O (X.ret Kn (Dl _ _ _ _ _ _ _ I ) O fun _ I => ⟨I.ctx, Dw O (Xl I (by rfl) (by rfl) (by rfl) [.int _ _, .int _ _] (by rfl) (by rfl) fun p8 w8 I => ⟨(I.cx 1), ?_⟩)⟩); refine Dw O (X.ret Dr (Ap [p.Jitter, mul 2 p.Rho] _ _ (by simp) _ _ _ _ _ I (Rds.ofCells 0 O 2 2)) O fun _ I => ⟨(I.cx 1), ?_⟩); refine Dq O (I.cx 1) (Y.assignI O)<|Dd<|We O<|⟨_, Ac.one results69 O, ?_⟩; exact ⟨O, (I.dr 2)⟩
theorem T3 (p : Par) (w0 w : World) (F0 : List Nat) (L G : List Res) (I : St w0 F0 w L G)  :
  Calls Tryz.prog 68 #[.agg #[.int .i64 p.N, .int .i64 p.F, .int .i64 p.D, .int .i64 p.Beat, .int .i64 p.Rho, .int .i64 p.Delay, .int .i64 p.Jitter, .int .i64 p.Eps, .int .i64 p.Mu, .int .i64 p.Hold, .int .i64 p.Pulse, .int .i64 p.Second]] w fun e w' => e = .returned (.int .i64 (M7 p)) ∧ St w0 F0 w' L G := by
 refine W.func func68 O ntmps68 O<|Wh O<|Ow O (X.boxA I O fun p1 w1 I => I.a O O<|Od O<|Wq O<|W.drawn O (by kernel_rfl) (Ctx _ _ (_) (_)) [] (.op 0 0 (.op 1 0 (.op 3 0 (.op 2 1 (.op 4 1 (.op 5 1 (.op 6 1 (.op 7 1 (.op 8 0 .nil))))))))) O (by kernel_rfl) I.drew.ctx<|?_); replace I := I.drew; generalize World.drew _ = wd at I ⊢; refine I.zf L9 O O<|I.zl 0 O O O O<|I.z O (Y.loadA 0 isAgg23 sizeOf23 O O O O)<|Dw O (X.ret Kn (Dl _ _ _ _ _ _ _ I ) O fun _ I => ⟨I.ctx, Dw O (X.ret Aw2 (M9 p _ _ _ _ _ I ) O fun _ I => ⟨I.ctx, Dw O (Xl I (by rfl) (by rfl) (by rfl) [.int _ _, .int _ _] (by rfl) (by rfl) fun p8 w8 I => ⟨(I.cx 1), ?_⟩)⟩)⟩); refine Dw O (X.ret Dr (Ap [mul 2 p.Eps, hop p] _ _ (by simp) _ _ _ _ _ I (Rds.ofCells 0 O 2 2)) O fun _ I => ⟨(I.cx 1), ?_⟩); refine Dw O (X.ret Kn (Dl _ _ _ _ _ _ _ I ) O fun _ I => ⟨(I.cx 1), Dq O (I.cx 1) (Y.assignI O)<|Dd<|We O<|⟨_, Ac.one results68 O, ?_⟩⟩); exact ⟨O, (I.dr 2)⟩
theorem U5 (p : Par) (held : Int) (hops : Int) (w0 w : World) (F0 : List Nat) (L G : List Res) (I : St w0 F0 w L G)  :
  Calls Tryz.prog 46 #[.agg #[.int .i64 p.N, .int .i64 p.F, .int .i64 p.D, .int .i64 p.Beat, .int .i64 p.Rho, .int .i64 p.Delay, .int .i64 p.Jitter, .int .i64 p.Eps, .int .i64 p.Mu, .int .i64 p.Hold, .int .i64 p.Pulse, .int .i64 p.Second], .int .i64 held, .int .i64 hops] w fun e w' => e = .returned (.int .i64 (Ju p held hops)) ∧ St w0 F0 w' L G := by
 refine W.func func46 O ntmps46 O<|Wh O<|Ow O (X.boxA I O fun p3 w3 I => I.a O O<|Od O<|Wq O<|W.drawn O (by kernel_rfl) (Ctx _ _ (_) (_)) [] (.op 0 0 (.op 2 0 (.op 3 0 (.op 5 0 (.op 7 0 (.op 10 0 (.alt 1 (.alt 4 (.alt 6 (.op 8 1 (.op 9 1 (.op 11 1 (.op 12 1 (.op 13 1 (.op 14 1 (.op 15 0 .nil))))))) (.op 8 1 (.op 6 1 (.op 9 1 (.op 11 1 (.op 12 1 (.op 13 1 (.op 14 1 (.op 15 0 .nil))))))))) (.op 8 1 (.op 4 1 (.op 6 1 (.op 9 1 (.op 11 1 (.op 12 1 (.op 13 1 (.op 14 1 (.op 15 0 .nil)))))))))) (.op 8 1 (.op 1 1 (.op 4 1 (.op 6 1 (.op 9 1 (.op 11 1 (.op 12 1 (.op 13 1 (.op 14 1 (.op 15 0 .nil))))))))))))))))) O (by kernel_rfl) I.drew.ctx<|?_); replace I := I.drew; generalize World.drew _ = wd at I ⊢; refine I.z O (Y.loadA 0 isAgg23 sizeOf23 O O O O)<|I.zf F4 O O<|I.zl 0 O O O O<|I.zu O O<|I.zu O O<|I.z O (Y.loadA 0 isAgg23 sizeOf23 O O O O)<|?_; refine Drw.alts (Alts.more ?_ (Alts.one ?_))
 ·refine One.ww O (X.ret Bs0 (T3 p _ _ _ _ _ I ) O fun w8 I => ⟨I.ctx, ?_⟩); refine Drw.alts (Alts.more ?_ (Alts.one ?_))
  ·refine One.ww O (X.ret Kn (Dl _ _ _ _ _ _ _ I ) O fun w11 I => ⟨I.ctx, ?_⟩); refine Drw.alts (Alts.more ?_ (Alts.one ?_))
   ·refine One.ww O (X.ret Kn (Dl _ _ _ _ _ _ _ I ) O fun w13 I => ⟨I.ctx, Dw O (Xl I (by rfl) (by rfl) (by rfl) [.int _ _, .int _ _] (by rfl) (by rfl) fun p15 w15 I => ⟨(I.cx 1), ?_⟩)⟩); refine Dw O (X.ret Dr (Ap [hops, 1] _ _ (by simp) _ _ _ _ _ I (Rds.ofCells 0 O 2 2)) O fun w16 I => ⟨(I.cx 1), ?_⟩); refine Dw O (X.ret Aw2 (M9 p _ _ _ _ _ I ) O fun w18 I => ⟨(I.cx 1), Dw O (X.ret Kn (Dl _ _ _ _ _ _ _ I ) O fun w19 I => ⟨(I.cx 1), Dw O (Xl I (by rfl) (by rfl) (by rfl) [.int _ _, .int _ _, .int _ _] (by rfl) (by rfl) fun p20 w20 I => ⟨(I.cx 2), ?_⟩)⟩)⟩); refine Dw O (X.ret Dr (Ap [M7 p, mul (mul 2 p.Rho) held, mul (Bb [hops, 1]) (hop p)] _ _ (by simp) _ _ _ _ _ I (Rds.ofCells 0 O 3 3)) O fun w21 I => ⟨(I.cx 2), ?_⟩); refine Dq O (I.cx 2) (Y.assignI O)<|Dd<|We O<|⟨_, Ac.one results46 O, ?_⟩; exact ⟨O, (I.dr 3)⟩
   ·refine One.ww O (Xl I (by rfl) (by rfl) (by rfl) [.int _ _, .int _ _] (by rfl) (by rfl) fun p15 w15 I => ⟨(I.cx 1), ?_⟩); refine Dw O (X.ret Kn (Dl _ _ _ _ _ _ _ I ) O fun w13 I => ⟨(I.cx 1), Dw O (X.ret Dr (Ap [hops, 1] _ _ (by simp) _ _ _ _ _ I (Rds.ofCells 0 O 2 2)) O fun w16 I => ⟨(I.cx 1), ?_⟩)⟩); refine Dw O (X.ret Aw2 (M9 p _ _ _ _ _ I ) O fun w18 I => ⟨(I.cx 1), Dw O (X.ret Kn (Dl _ _ _ _ _ _ _ I ) O fun w19 I => ⟨(I.cx 1), Dw O (Xl I (by rfl) (by rfl) (by rfl) [.int _ _, .int _ _, .int _ _] (by rfl) (by rfl) fun p20 w20 I => ⟨(I.cx 2), ?_⟩)⟩)⟩); refine Dw O (X.ret Dr (Ap [M7 p, mul (mul 2 p.Rho) held, mul (Bb [hops, 1]) (hop p)] _ _ (by simp) _ _ _ _ _ I (Rds.ofCells 0 O 3 3)) O fun w21 I => ⟨(I.cx 2), ?_⟩); refine Dq O (I.cx 2) (Y.assignI O)<|Dd<|We O<|⟨_, Ac.one results46 O, ?_⟩; exact ⟨O, (I.dr 3)⟩
  ·refine One.ww O (Xl I (by rfl) (by rfl) (by rfl) [.int _ _, .int _ _] (by rfl) (by rfl) fun p15 w15 I => ⟨(I.cx 1), ?_⟩); refine Dw O (X.ret Kn (Dl _ _ _ _ _ _ _ I ) O fun w11 I => ⟨(I.cx 1), Dw O (X.ret Kn (Dl _ _ _ _ _ _ _ I ) O fun w13 I => ⟨(I.cx 1), Dw O (X.ret Dr (Ap [hops, 1] _ _ (by simp) _ _ _ _ _ I (Rds.ofCells 0 O 2 2)) O fun w16 I => ⟨(I.cx 1), ?_⟩)⟩)⟩); refine Dw O (X.ret Aw2 (M9 p _ _ _ _ _ I ) O fun w18 I => ⟨(I.cx 1), Dw O (X.ret Kn (Dl _ _ _ _ _ _ _ I ) O fun w19 I => ⟨(I.cx 1), Dw O (Xl I (by rfl) (by rfl) (by rfl) [.int _ _, .int _ _, .int _ _] (by rfl) (by rfl) fun p20 w20 I => ⟨(I.cx 2), ?_⟩)⟩)⟩); refine Dw O (X.ret Dr (Ap [M7 p, mul (mul 2 p.Rho) held, mul (Bb [hops, 1]) (hop p)] _ _ (by simp) _ _ _ _ _ I (Rds.ofCells 0 O 3 3)) O fun w21 I => ⟨(I.cx 2), ?_⟩); refine Dq O (I.cx 2) (Y.assignI O)<|Dd<|We O<|⟨_, Ac.one results46 O, ?_⟩; exact ⟨O, (I.dr 3)⟩
 ·refine One.ww O (Xl I (by rfl) (by rfl) (by rfl) [.int _ _, .int _ _] (by rfl) (by rfl) fun p15 w15 I => ⟨(I.cx 1), ?_⟩); refine Dw O (X.ret Bs0 (T3 p _ _ _ _ _ I ) O fun w8 I => ⟨(I.cx 1), Dw O (X.ret Kn (Dl _ _ _ _ _ _ _ I ) O fun w11 I => ⟨(I.cx 1), Dw O (X.ret Kn (Dl _ _ _ _ _ _ _ I ) O fun w13 I => ⟨(I.cx 1), Dw O (X.ret Dr (Ap [hops, 1] _ _ (by simp) _ _ _ _ _ I (Rds.ofCells 0 O 2 2)) O fun w16 I => ⟨(I.cx 1), ?_⟩)⟩)⟩)⟩); refine Dw O (X.ret Aw2 (M9 p _ _ _ _ _ I ) O fun w18 I => ⟨(I.cx 1), Dw O (X.ret Kn (Dl _ _ _ _ _ _ _ I ) O fun w19 I => ⟨(I.cx 1), Dw O (Xl I (by rfl) (by rfl) (by rfl) [.int _ _, .int _ _, .int _ _] (by rfl) (by rfl) fun p20 w20 I => ⟨(I.cx 2), ?_⟩)⟩)⟩); refine Dw O (X.ret Dr (Ap [M7 p, mul (mul 2 p.Rho) held, mul (Bb [hops, 1]) (hop p)] _ _ (by simp) _ _ _ _ _ I (Rds.ofCells 0 O 3 3)) O fun w21 I => ⟨(I.cx 2), ?_⟩); refine Dq O (I.cx 2) (Y.assignI O)<|Dd<|We O<|⟨_, Ac.one results46 O, ?_⟩; exact ⟨O, (I.dr 3)⟩
theorem X4 (p : Par) (slo shi : Int) (ticks : Int) (w0 w : World) (F0 : List Nat) (L G : List Res) (I : St w0 F0 w L G)  :
  Calls Tryz.prog 120 #[.agg #[.int .i64 p.N, .int .i64 p.F, .int .i64 p.D, .int .i64 p.Beat, .int .i64 p.Rho, .int .i64 p.Delay, .int .i64 p.Jitter, .int .i64 p.Eps, .int .i64 p.Mu, .int .i64 p.Hold, .int .i64 p.Pulse, .int .i64 p.Second], .agg #[.int .i64 slo, .int .i64 shi], .int .i64 ticks] w fun e w' => e = .returned (.agg #[.int .i64 (hold p ⟨slo, shi⟩ ticks).lo, .int .i64 (hold p ⟨slo, shi⟩ ticks).hi]) ∧ St w0 F0 w' L G := by
 refine W.func func120 O ntmps120 O<|Wh O<|Ow O (X.boxA I O fun p3 w3 I => Ow O (X.boxA I O fun p4 w4 I => Ow O (X.allocA I zeroValue53 fun p6 w6 I => Od O<|Wq O<|W.drawn O (by kernel_rfl) (Ctx _ _ (_) (_)) [11] (.op 0 0 (.op 1 0 (.op 2 0 (.op 3 0 (.op 5 0 (.op 6 0 (.op 7 0 (.alt 4 (.op 8 1 (.op 9 1 (.op 10 1 (.op 11 1 .nil)))) (.op 8 1 (.op 4 1 (.op 9 1 (.op 10 1 (.op 11 1 .nil))))))))))))) O (by kernel_rfl) I.drew.ctx<|?_))); replace I := I.drew; generalize World.drew _ = wd at I ⊢; refine I.z O (Y.loadA 1 isAgg53 sizeOf53 O O O O)<|I.zu O O<|I.zf F4 O O<|I.zl 2 O O O O<|I.zu O O<|I.zf F4 O O<|I.zl 2 O O O O<|?_; refine Drw.alts (Alts.more ?_ (Alts.one ?_))
 ·refine One.ww O (X.ret S9 (Ge _ _ _ _ _ _ _ I ) O fun w11 I => ⟨I.ctx, Dw O (Xl I (by rfl) (by rfl) (by rfl) [.int _ _, .int _ _] (by rfl) (by rfl) fun p15 w15 I => ⟨(I.cx 1), ?_⟩)⟩); refine Dw O (X.ret Dr (Ap [ticks, p.Rho] _ _ (by simp) _ _ _ _ _ I (Rds.ofCells 0 O 2 2)) O fun w16 I => ⟨(I.cx 1), ?_⟩); refine Dw O (X.ret Qx (F8 _ _ _ _ _ _ _ _ _ I ) O fun w17 I => ⟨(I.cx 1), Drw.z O O O O (X.storeS I 1 sizeOf53 O O O O O (lZ O) O O fun w1_11 I => Dd<|We O<|⟨_, Ac.cell results120 O (Bd isAgg53 sizeOf53 1 I O O), ?_⟩)⟩); exact ⟨O, (I.dr 4)⟩
 ·refine One.ww O (Xl I (by rfl) (by rfl) (by rfl) [.int _ _, .int _ _] (by rfl) (by rfl) fun p15 w15 I => ⟨(I.cx 1), ?_⟩); refine Dw O (X.ret S9 (Ge _ _ _ _ _ _ _ I ) O fun w11 I => ⟨(I.cx 1), Dw O (X.ret Dr (Ap [ticks, p.Rho] _ _ (by simp) _ _ _ _ _ I (Rds.ofCells 0 O 2 2)) O fun w16 I => ⟨(I.cx 1), ?_⟩)⟩); refine Dw O (X.ret Qx (F8 _ _ _ _ _ _ _ _ _ I ) O fun w17 I => ⟨(I.cx 1), Drw.z O O O O (X.storeS I 1 sizeOf53 O O O O O (lZ O) O O fun w1_11 I => Dd<|We O<|⟨_, Ac.cell results120 O (Bd isAgg53 sizeOf53 1 I O O), ?_⟩)⟩); exact ⟨O, (I.dr 4)⟩
theorem Qg (p : Par) (slo shi : Int) (age : Int) (w0 w : World) (F0 : List Nat) (L G : List Res) (I : St w0 F0 w L G)  :
  Calls Tryz.prog 119 #[.agg #[.int .i64 p.N, .int .i64 p.F, .int .i64 p.D, .int .i64 p.Beat, .int .i64 p.Rho, .int .i64 p.Delay, .int .i64 p.Jitter, .int .i64 p.Eps, .int .i64 p.Mu, .int .i64 p.Hold, .int .i64 p.Pulse, .int .i64 p.Second], .agg #[.int .i64 slo, .int .i64 shi], .int .i64 age] w fun e w' => e = .returned (.agg #[.int .i64 (way p ⟨slo, shi⟩ age).lo, .int .i64 (way p ⟨slo, shi⟩ age).hi]) ∧ St w0 F0 w' L G := by
 refine W.func func119 O ntmps119 O<|Wh O<|Ow O (X.boxA I O fun p3 w3 I => Ow O (X.boxA I O fun p4 w4 I => Ow O (X.allocA I zeroValue53 fun p6 w6 I => Od O<|Wq O<|W.drawn O (by kernel_rfl) (Ctx _ _ (_) (_)) [20] (.op 0 0 (.op 1 0 (.op 2 0 (.op 3 0 (.op 4 0 (.op 6 0 (.op 7 0 (.op 8 0 (.op 12 0 (.op 13 0 (.op 14 0 (.op 15 0 (.op 16 0 (.alt 5 (.alt 9 (.alt 10 (.alt 11 (.op 17 1 (.op 18 1 (.op 19 1 (.op 20 1 .nil)))) (.op 17 1 (.op 11 1 (.op 18 1 (.op 19 1 (.op 20 1 .nil)))))) (.op 17 1 (.op 10 1 (.op 11 1 (.op 18 1 (.op 19 1 (.op 20 1 .nil))))))) (.op 17 1 (.op 9 1 (.op 10 1 (.op 11 1 (.op 18 1 (.op 19 1 (.op 20 1 .nil)))))))) (.op 17 1 (.op 5 1 (.op 9 1 (.op 10 1 (.op 11 1 (.op 18 1 (.op 19 1 (.op 20 1 .nil)))))))))))))))))))))) O (by kernel_rfl) I.drew.ctx<|?_))); replace I := I.drew; generalize World.drew _ = wd at I ⊢; refine I.z O (Y.loadA 1 isAgg53 sizeOf53 O O O O)<|I.zf N1 O O<|I.zl 2 O O O O<|I.zf Vo O O<|I.zl 2 O O O O<|I.zu O O<|I.zf F4 O O<|I.zl 2 O O O O<|I.zf N1 O O<|I.zl 2 O O O O<|I.zu O O<|I.zf F4 O O<|I.zl 2 O O O O<|?_; refine Drw.alts (Alts.more ?_ (Alts.one ?_))
 ·refine One.ww O (X.ret S9 (Ge _ _ _ _ _ _ _ I ) O fun w12 I => ⟨I.ctx, ?_⟩); refine Drw.alts (Alts.more ?_ (Alts.one ?_))
  ·refine One.ww O (X.ret An4 (Lj _ _ _ _ _ _ I ) O fun w16 I => ⟨I.ctx, ?_⟩); refine Drw.alts (Alts.more ?_ (Alts.one ?_))
   ·refine One.ww O (Xl I (by rfl) (by rfl) (by rfl) [.int _ _, .int _ _, .int _ _] (by rfl) (by rfl) fun p17 w17 I => ⟨(I.cx 1), ?_⟩); refine Drw.alts (Alts.more ?_ (Alts.one ?_))
    ·refine One.ww O (X.ret Dr (Ap [sub p.Delay p.Jitter, age, neg p.Rho] _ _ (by simp) _ _ _ _ _ I (Rds.ofCells 0 O 3 3)) O fun w18 I => ⟨(I.cx 1), ?_⟩); refine Dw O (Xl I (by rfl) (by rfl) (by rfl) [.int _ _, .int _ _, .int _ _] (by rfl) (by rfl) fun p24 w24 I => ⟨(I.cx 2), ?_⟩); refine Dw O (X.ret Dr (Ap [p.Delay, age, p.Rho] _ _ (by simp) _ _ _ _ _ I (Rds.ofCells 0 O 3 3)) O fun w25 I => ⟨(I.cx 2), ?_⟩); refine Dw O (X.ret Qx (F8 _ _ _ _ _ _ _ _ _ I ) O fun w26 I => ⟨(I.cx 2), Drw.z O O O O (X.storeS I 2 sizeOf53 O O O O O (lZ O) O O fun w1_20 I => Dd<|We O<|⟨_, Ac.cell results119 O (Bd isAgg53 sizeOf53 2 I O O), ?_⟩)⟩); exact ⟨O, (I.dr 5)⟩
    ·refine One.ww O (Xl I (by rfl) (by rfl) (by rfl) [.int _ _, .int _ _, .int _ _] (by rfl) (by rfl) fun p24 w24 I => ⟨(I.cx 2), ?_⟩); refine Dw O (X.ret Dr (Ap [sub p.Delay p.Jitter, age, neg p.Rho] _ _ (by simp) _ _ _ _ _ I (Rds.ofCells 1 O 3 3)) O fun w18 I => ⟨(I.cx 2), ?_⟩); refine Dw O (X.ret Dr (Ap [p.Delay, age, p.Rho] _ _ (by simp) _ _ _ _ _ I (Rds.ofCells 0 O 3 3)) O fun w25 I => ⟨(I.cx 2), ?_⟩); refine Dw O (X.ret Qx (F8 _ _ _ _ _ _ _ _ _ I ) O fun w26 I => ⟨(I.cx 2), Drw.z O O O O (X.storeS I 2 sizeOf53 O O O O O (lZ O) O O fun w1_20 I => Dd<|We O<|⟨_, Ac.cell results119 O (Bd isAgg53 sizeOf53 2 I O O), ?_⟩)⟩); exact ⟨O, (I.dr 5)⟩
   ·refine One.ww O (Xl I (by rfl) (by rfl) (by rfl) [.int _ _, .int _ _, .int _ _] (by rfl) (by rfl) fun p24 w24 I => ⟨(I.cx 1), ?_⟩); refine Dw O (Xl I (by rfl) (by rfl) (by rfl) [.int _ _, .int _ _, .int _ _] (by rfl) (by rfl) fun p17 w17 I => ⟨(I.cx 2), ?_⟩); refine Dw O (X.ret Dr (Ap [sub p.Delay p.Jitter, age, neg p.Rho] _ _ (by simp) _ _ _ _ _ I (Rds.ofCells 0 O 3 3)) O fun w18 I => ⟨(I.cx 2), ?_⟩); refine Dw O (X.ret Dr (Ap [p.Delay, age, p.Rho] _ _ (by simp) _ _ _ _ _ I (Rds.ofCells 1 O 3 3)) O fun w25 I => ⟨(I.cx 2), ?_⟩); refine Dw O (X.ret Qx (F8 _ _ _ _ _ _ _ _ _ I ) O fun w26 I => ⟨(I.cx 2), Drw.z O O O O (X.storeS I 2 sizeOf53 O O O O O (lZ O) O O fun w1_20 I => Dd<|We O<|⟨_, Ac.cell results119 O (Bd isAgg53 sizeOf53 2 I O O), ?_⟩)⟩); exact ⟨O, (I.dr 5)⟩
  ·refine One.ww O (Xl I (by rfl) (by rfl) (by rfl) [.int _ _, .int _ _, .int _ _] (by rfl) (by rfl) fun p24 w24 I => ⟨(I.cx 1), ?_⟩); refine Dw O (X.ret An4 (Lj _ _ _ _ _ _ I ) O fun w16 I => ⟨(I.cx 1), Dw O (Xl I (by rfl) (by rfl) (by rfl) [.int _ _, .int _ _, .int _ _] (by rfl) (by rfl) fun p17 w17 I => ⟨(I.cx 2), ?_⟩)⟩); refine Dw O (X.ret Dr (Ap [sub p.Delay p.Jitter, age, neg p.Rho] _ _ (by simp) _ _ _ _ _ I (Rds.ofCells 0 O 3 3)) O fun w18 I => ⟨(I.cx 2), ?_⟩); refine Dw O (X.ret Dr (Ap [p.Delay, age, p.Rho] _ _ (by simp) _ _ _ _ _ I (Rds.ofCells 1 O 3 3)) O fun w25 I => ⟨(I.cx 2), ?_⟩); refine Dw O (X.ret Qx (F8 _ _ _ _ _ _ _ _ _ I ) O fun w26 I => ⟨(I.cx 2), Drw.z O O O O (X.storeS I 2 sizeOf53 O O O O O (lZ O) O O fun w1_20 I => Dd<|We O<|⟨_, Ac.cell results119 O (Bd isAgg53 sizeOf53 2 I O O), ?_⟩)⟩); exact ⟨O, (I.dr 5)⟩
 ·refine One.ww O (Xl I (by rfl) (by rfl) (by rfl) [.int _ _, .int _ _, .int _ _] (by rfl) (by rfl) fun p24 w24 I => ⟨(I.cx 1), ?_⟩); refine Dw O (X.ret S9 (Ge _ _ _ _ _ _ _ I ) O fun w12 I => ⟨(I.cx 1), Dw O (X.ret An4 (Lj _ _ _ _ _ _ I ) O fun w16 I => ⟨(I.cx 1), Dw O (Xl I (by rfl) (by rfl) (by rfl) [.int _ _, .int _ _, .int _ _] (by rfl) (by rfl) fun p17 w17 I => ⟨(I.cx 2), ?_⟩)⟩)⟩); refine Dw O (X.ret Dr (Ap [sub p.Delay p.Jitter, age, neg p.Rho] _ _ (by simp) _ _ _ _ _ I (Rds.ofCells 0 O 3 3)) O fun w18 I => ⟨(I.cx 2), ?_⟩); refine Dw O (X.ret Dr (Ap [p.Delay, age, p.Rho] _ _ (by simp) _ _ _ _ _ I (Rds.ofCells 1 O 3 3)) O fun w25 I => ⟨(I.cx 2), ?_⟩); refine Dw O (X.ret Qx (F8 _ _ _ _ _ _ _ _ _ I ) O fun w26 I => ⟨(I.cx 2), Drw.z O O O O (X.storeS I 2 sizeOf53 O O O O O (lZ O) O O fun w1_20 I => Dd<|We O<|⟨_, Ac.cell results119 O (Bd isAgg53 sizeOf53 2 I O O), ?_⟩)⟩); exact ⟨O, (I.dr 5)⟩
theorem Jo (held : Int) (w0 w : World) (F0 : List Nat) (L G : List Res) (I : St w0 F0 w L G)  :
  Calls Tryz.prog 121 #[.int .i64 held] w fun e w' => e = .returned (.int .i64 (Dk held)) ∧ St w0 F0 w' L G := by
 refine W.func func121 O ntmps121 O<|Wh O<|I.a O O<|Ds O O<|I.u O O<|Ow O (Xl I (by rfl) (by rfl) (by rfl) [.int _ _, .int _ _] (by rfl) (by rfl) fun p4 w4 I => ?_); refine Ow O (X.ret Dr (Ap [held, 1] _ _ (by simp) _ _ _ _ _ I (Rds.ofCells 0 O 2 2)) O fun _ I => ?_); refine Ow O (X.ret Nv (C1 _ _ _ _ _ _ _ _ I ) O fun _ I => I.a O O<|Od O<|We O<|⟨_, Ac.one results121 O, ?_⟩); exact ⟨O, (I.dr 1)⟩
theorem A55 (p : Par) (reading : Int) (w0 w : World) (F0 : List Nat) (L G : List Res) (I : St w0 F0 w L G)  :
    Calls Tryz.prog 117 #[.agg #[.int .i64 p.N, .int .i64 p.F, .int .i64 p.D, .int .i64 p.Beat, .int .i64 p.Rho, .int .i64 p.Delay, .int .i64 p.Jitter, .int .i64 p.Eps, .int .i64 p.Mu, .int .i64 p.Hold, .int .i64 p.Pulse, .int .i64 p.Second], .int .i64 reading] w fun e w' => ∃ b, e = .returned (.tuple #[.agg #[.int .i64 (Aw p reading).lo, .int .i64 (Aw p reading).hi], .bool b]) ∧ b = decide (Cj p reading) ∧ St w0 F0 w' L G := by
  refine W.func func117 O ntmps117 O<|Wh O<|Ow O (X.boxA I O fun p2 w2 I => Ow O (X.allocA I zeroValue53 fun p4 w4 I => I.g O O<|Od O<|Wq O<|Wh O<|I.u O O<|I.V O O O (fun b7 hb7 => I.b O O<|?_))); cases b7
  · replace hb7 := dF hb7; refine I.u O O<|I.v O O O (fun b10 hb10 => I.k O O O<|I.b O O<|?_); cases b10
    · replace hb10 := dF hb10; refine I.f L9 O O<|I.l 1 O O O O<|I.v O O O (fun b15 hb15 => I.k O O O<|Od O<|?_); cases b15
      · replace hb15 := dF hb15; refine Wu O O<|Wk O<|Wq O<|W.drawn O (by kernel_rfl) (Ctx _ _ (_) (_)) [10, 11] (.op 0 0 (.op 1 0 (.op 2 0 (.op 4 0 (.op 5 0 (.op 6 0 (.alt 3 (.op 7 1 (.op 8 1 (.op 9 0 (.op 10 1 (.op 11 1 .nil))))) (.op 7 1 (.op 3 1 (.op 8 1 (.op 9 0 (.op 10 1 (.op 11 1 .nil))))))))))))) O (by kernel_rfl) I.drew.ctx<|?_; replace I := I.drew; generalize World.drew _ = wd at I ⊢; refine I.zu O O<|I.zf L9 O O<|I.zl 1 O O O O<|I.zu O O<|I.zf L9 O O<|I.zl 1 O O O O<|?_; refine Drw.alts (Alts.more ?_ (Alts.one ?_))
        · refine One.ww O (X.ret S9 (Ge _ _ _ _ _ _ _ I ) O fun w21 I => ⟨I.ctx, Dw O (Xl I (by rfl) (by rfl) (by rfl) [.int _ _, .int _ _] (by rfl) (by rfl) fun p25 w25 I => ⟨(I.cx 1), ?_⟩)⟩); refine Dw O (X.ret Dr (Ap [reading, p.Eps] _ _ (by simp) _ _ _ _ _ I (Rds.ofCells 0 O 2 2)) O fun w26 I => ⟨(I.cx 1), ?_⟩); refine Dq O (I.cx 1) (Hq O)<|Drw.z O O O O (X.storeS I 1 sizeOf53 O O O O O (lZ O) O O fun w3_10 I => Drw.zy O O O O I.ctx (Y.assignB O)<|Dd<|We O<|⟨_, Ac.cellTmp results117 O (Bd isAgg53 sizeOf53 1 I O O) O, ?_⟩)
          first
          | (have hk : Cj p reading := by unfold Cj; omega
             have hs : Aw p reading = ⟨sub reading p.Eps, Bb [reading, p.Eps]⟩ := by unfold Aw; rw [if_pos hk]
             exact ⟨true, by rw [hs]; first | done | rfl, (decide_eq_true hk).symm, (I.dr 3)⟩)
          | (have hk : ¬ Cj p reading := by unfold Cj; omega
             have hs : Aw p reading = ⟨0, 0⟩ := by unfold Aw; rw [if_neg hk]
             exact ⟨false, by rw [hs]; first | done | rfl, (decide_eq_false hk).symm, (I.dr 3)⟩)
        · refine One.ww O (Xl I (by rfl) (by rfl) (by rfl) [.int _ _, .int _ _] (by rfl) (by rfl) fun p25 w25 I => ⟨(I.cx 1), ?_⟩); refine Dw O (X.ret S9 (Ge _ _ _ _ _ _ _ I ) O fun w21 I => ⟨(I.cx 1), Dw O (X.ret Dr (Ap [reading, p.Eps] _ _ (by simp) _ _ _ _ _ I (Rds.ofCells 0 O 2 2)) O fun w26 I => ⟨(I.cx 1), ?_⟩)⟩); refine Dq O (I.cx 1) (Hq O)<|Drw.z O O O O (X.storeS I 1 sizeOf53 O O O O O (lZ O) O O fun w3_10 I => Drw.zy O O O O I.ctx (Y.assignB O)<|Dd<|We O<|⟨_, Ac.cellTmp results117 O (Bd isAgg53 sizeOf53 1 I O O) O, ?_⟩)
          first
          | (have hk : Cj p reading := by unfold Cj; omega
             have hs : Aw p reading = ⟨sub reading p.Eps, Bb [reading, p.Eps]⟩ := by unfold Aw; rw [if_pos hk]
             exact ⟨true, by rw [hs]; first | done | rfl, (decide_eq_true hk).symm, (I.dr 3)⟩)
          | (have hk : ¬ Cj p reading := by unfold Cj; omega
             have hs : Aw p reading = ⟨0, 0⟩ := by unfold Aw; rw [if_neg hk]
             exact ⟨false, by rw [hs]; first | done | rfl, (decide_eq_false hk).symm, (I.dr 3)⟩)
      · replace hb15 := dT hb15; refine Wt O O<|Wh O<|I.y O (Mr O)<|Ow O (X.storeS I 0 sizeOf53 O O O O O (lZ O) O O fun w2_1 I => I.g O O<|Od O<|We O<|⟨_, Ac.cellTmp results117 O (Bd isAgg53 sizeOf53 0 I O O) O, ?_⟩)
        first
        | (have hk : Cj p reading := by unfold Cj; omega
           have hs : Aw p reading = ⟨sub reading p.Eps, Bb [reading, p.Eps]⟩ := by unfold Aw; rw [if_pos hk]
           exact ⟨true, by rw [hs]; first | done | rfl, (decide_eq_true hk).symm, (I.dr 2)⟩)
        | (have hk : ¬ Cj p reading := by unfold Cj; omega
           have hs : Aw p reading = ⟨0, 0⟩ := by unfold Aw; rw [if_neg hk]
           exact ⟨false, by rw [hs]; first | done | rfl, (decide_eq_false hk).symm, (I.dr 2)⟩)
    · replace hb10 := dT hb10; refine On O<|On O<|On O<|I.k O O O<|Od O<|Wt O O<|Wh O<|I.y O (Mr O)<|Ow O (X.storeS I 0 sizeOf53 O O O O O (lZ O) O O fun w2_1 I => I.g O O<|Od O<|We O<|⟨_, Ac.cellTmp results117 O (Bd isAgg53 sizeOf53 0 I O O) O, ?_⟩)
      first
      | (have hk : Cj p reading := by unfold Cj; omega
         have hs : Aw p reading = ⟨sub reading p.Eps, Bb [reading, p.Eps]⟩ := by unfold Aw; rw [if_pos hk]
         exact ⟨true, by rw [hs]; first | done | rfl, (decide_eq_true hk).symm, (I.dr 2)⟩)
      | (have hk : ¬ Cj p reading := by unfold Cj; omega
         have hs : Aw p reading = ⟨0, 0⟩ := by unfold Aw; rw [if_neg hk]
         exact ⟨false, by rw [hs]; first | done | rfl, (decide_eq_false hk).symm, (I.dr 2)⟩)
  · replace hb7 := dT hb7; refine On O<|On O<|I.k O O O<|I.b O O<|On O<|On O<|On O<|I.k O O O<|Od O<|Wt O O<|Wh O<|I.y O (Mr O)<|Ow O (X.storeS I 0 sizeOf53 O O O O O (lZ O) O O fun w2_1 I => I.g O O<|Od O<|We O<|⟨_, Ac.cellTmp results117 O (Bd isAgg53 sizeOf53 0 I O O) O, ?_⟩)
    first
    | (have hk : Cj p reading := by unfold Cj; omega
       have hs : Aw p reading = ⟨sub reading p.Eps, Bb [reading, p.Eps]⟩ := by unfold Aw; rw [if_pos hk]
       exact ⟨true, by rw [hs]; first | done | rfl, (decide_eq_true hk).symm, (I.dr 2)⟩)
    | (have hk : ¬ Cj p reading := by unfold Cj; omega
       have hs : Aw p reading = ⟨0, 0⟩ := by unfold Aw; rw [if_neg hk]
       exact ⟨false, by rw [hs]; first | done | rfl, (decide_eq_false hk).symm, (I.dr 2)⟩)
theorem A03 (p : Par) (w0 w : World) (F0 : List Nat) (L G : List Res) (I : St w0 F0 w L G) (hD : -9223372036854775808 ≤ p.D + 1 ∧ p.D + 1 ≤ 9223372036854775807) :
  Calls Tryz.prog 178 #[.agg #[.int .i64 p.N, .int .i64 p.F, .int .i64 p.D, .int .i64 p.Beat, .int .i64 p.Rho, .int .i64 p.Delay, .int .i64 p.Jitter, .int .i64 p.Eps, .int .i64 p.Mu, .int .i64 p.Hold, .int .i64 p.Pulse, .int .i64 p.Second]] w fun e w' => e = .returned (.int .i64 (p.D + 1)) ∧ St w0 F0 w' L G := by
 refine W.func func178 O ntmps178 O<|Wh O<|Ow O (X.boxA I O fun p1 w1 I => I.a O O<|Ds O O<|I.f I4 O O<|I.l 0 O O O O<|I.j O O O (by omega)<|I.a O O<|Od O<|We O<|⟨_, Ac.one results178 O, ?_⟩); exact ⟨O, (I.dr 1)⟩
theorem Ai0 (p : Par) (held : Int) (w0 w : World) (F0 : List Nat) (L G : List Res) (I : St w0 F0 w L G)  :
  Calls Tryz.prog 132 #[.agg #[.int .i64 p.N, .int .i64 p.F, .int .i64 p.D, .int .i64 p.Beat, .int .i64 p.Rho, .int .i64 p.Delay, .int .i64 p.Jitter, .int .i64 p.Eps, .int .i64 p.Mu, .int .i64 p.Hold, .int .i64 p.Pulse, .int .i64 p.Second], .int .i64 held] w fun e w' => e = .returned (.int .i64 (far p held)) ∧ St w0 F0 w' L G := by
 refine W.func func132 O ntmps132 O<|Wh O<|Ow O (X.boxA I O fun p2 w2 I => I.a O O<|Od O<|Wq O<|W.drawn O (by kernel_rfl) (Ctx _ _ (_) (_)) [] (.op 0 0 (.op 1 0 (.op 2 0 (.op 3 0 (.op 6 0 (.op 7 0 (.op 4 1 (.op 5 1 (.op 8 1 (.op 9 1 (.op 10 0 .nil))))))))))) O (by kernel_rfl) I.drew.ctx<|?_); replace I := I.drew; generalize World.drew _ = wd at I ⊢; refine I.z O (Y.loadA 0 isAgg23 sizeOf23 O O O O)<|I.zu O O<|I.zf Vq O O<|I.zl 0 O O O O<|I.zf I4 O O<|I.zl 0 O O O O<|Dw O (Xl I (by rfl) (by rfl) (by rfl) [.int _ _, .int _ _] (by rfl) (by rfl) fun p9 w9 I => ⟨(I.cx 1), ?_⟩); refine Dw O (X.ret Bo9 (A05 [held, p.Hold] _ _ (by simp) _ _ _ _ _ I (Rds.ofCells 0 O 2 2)) O fun _ I => ⟨(I.cx 1), ?_⟩); refine Dw O (X.ret Br8 (U5 p _ _ _ _ _ _ _ I ) O fun _ I => ⟨(I.cx 1), Dw O (X.ret Kn (Dl _ _ _ _ _ _ _ I ) O fun _ I => ⟨(I.cx 1), Dq O (I.cx 1) (Y.assignI O)<|Dd<|We O<|⟨_, Ac.one results132 O, ?_⟩⟩)⟩); exact ⟨O, (I.dr 2)⟩
theorem Qq {S ρ ty} {parts : Array (Nat × Operand)} {x0 : Int} (hp : (parts.toList.map fun x => (x.1, ev ρ x.2)) = [(0, .int .i64 x0)]) : Y Tryz.prog S ρ (.build 55 parts) ty (.agg #[.int .i64 x0, .int .i64 0]) :=
 Y.build hp fun w => by simp [Instr.build, go_sem]
theorem Xc {S ρ ty} {parts : Array (Nat × Operand)} {x0 x1 : Int} (hp : (parts.toList.map fun x => (x.1, ev ρ x.2)) = [(0, .int .i64 x0), (1, .int .i64 x1)]) : Y Tryz.prog S ρ (.build 55 parts) ty (.agg #[.int .i64 x0, .int .i64 x1]) :=
 Y.build hp fun w => by simp [Instr.build, go_sem]
theorem Lb {S ρ ty} {parts : Array (Nat × Operand)} {x0 : Int} {x1 : Bool} (hp : (parts.toList.map fun x => (x.1, ev ρ x.2)) = [(0, .int .i64 x0), (1, Value.bool x1)]) : Y Tryz.prog S ρ (.build 241 parts) ty (.agg #[.int .i64 x0, Value.bool x1]) :=
 Y.build hp fun w => by simp [Instr.build, go_sem]
theorem H6 {S ρ ty} {parts : Array (Nat × Operand)} {a b : Int} (hp : (parts.toList.map fun x => (x.1, ev ρ x.2)) = [(0, .agg #[.int .i64 a, .int .i64 b])]) : Y Tryz.prog S ρ (.build 244 parts) ty (.agg #[.int .i64 a, .int .i64 b]) :=
 Y.build hp fun w => by simp [Instr.build, go_sem]
theorem Vp : FA 23 8 8 := fun _ _ => by simp [Instr.fieldAt, Instr.sureAddr, go_sem]
theorem E1 : FA 55 0 0 := fun _ _ => by simp [Instr.fieldAt, Instr.sureAddr, go_sem]
theorem I6 : FA 55 1 1 := fun _ _ => by simp [Instr.fieldAt, Instr.sureAddr, go_sem]
theorem M5 : FA 241 0 0 := fun _ _ => by simp [Instr.fieldAt, Instr.sureAddr, go_sem]
theorem Ahz : FA 241 1 1 := fun _ _ => by simp [Instr.fieldAt, Instr.sureAddr, go_sem]
theorem Ig : FA 244 0 0 := fun _ _ => by simp [Instr.fieldAt, Instr.sureAddr, go_sem]
theorem Bj5 : CF 42 := fun _ _ => by simp [go_sem]
theorem Ah5 : CF 136 := fun _ _ => by simp [go_sem]
theorem Bh2 : CF 143 := fun _ _ => by simp [go_sem]
theorem Bq5 : CF 193 := fun _ _ => by simp [go_sem]
theorem Bq9 : CF 199 := fun _ _ => by simp [go_sem]
theorem A69 {a c : Int} (hc : 1 ≤ c) : (a.tmod c < 0 → a.tdiv c - 1 = a / c ∧ a.tmod c + c = a % c) ∧ (¬ a.tmod c < 0 → a.tdiv c = a / c ∧ a.tmod c = a % c) := by
 have h1 := Int.mul_tdiv_add_tmod a c; have h2 := Int.tmod_lt_of_pos a (b := c) (by omega); have h3 := Int.lt_tmod_of_pos a (b := c) (by omega); constructor
 ·intro h; have h4 : c * (a.tdiv c - 1) = c * a.tdiv c - c := by rw [Int.mul_sub, Int.mul_one]
  obtain ⟨e1, e2⟩ := (Int.ediv_emod_unique (a := a) (b := c) (r := a.tmod c + c) (q := a.tdiv c - 1) (by omega)).2 ⟨by omega, by omega, by omega⟩; exact ⟨e1.symm, e2.symm⟩
 ·intro h; obtain ⟨e1, e2⟩ := (Int.ediv_emod_unique (a := a) (b := c) (r := a.tmod c) (q := a.tdiv c) (by omega)).2 ⟨by omega, by omega, by omega⟩; exact ⟨e1.symm, e2.symm⟩
theorem Al8 {a c : Int} (ha : -2305843009213693952 ≤ a ∧ a ≤ 2305843009213693952) (hc : 1 ≤ c) : -2305843009213693952 ≤ a.tdiv c ∧ a.tdiv c ≤ 2305843009213693952 := by
 have h := Int.natAbs_tdiv a c; have h2 := Nat.div_le_self a.natAbs c.natAbs; change (a.tdiv c).natAbs = a.natAbs / c.natAbs at h; omega
theorem Y.quoT {P : Program} {ρ : Env} {S : World → Prop} {ty t t' : TypeId} {x y : Operand} {m m' : Int} (hx : ev ρ x = .int .i64 m) (hy : ev ρ y = .int .i64 m') (ha : -2305843009213693952 ≤ m ∧ m ≤ 2305843009213693952) (hc : 1 ≤ m') : Y P S ρ (.binOp .quo t x y t') ty (.int .i64 (m.tdiv m')) := by
 have h := Y.quo (P := P) (S := S) (t := t) (t' := t') (ty := ty) hx hy (by omega); have h2 := Al8 ha hc; rwa [IntWalk.i64_in _ (by omega)] at h
theorem Ak8 {a b c d : Int} (h : a = c) (h2 : b = d) : Ending.returned (.tuple #[.int .i64 a, .int .i64 b]) = .returned (.tuple #[.int .i64 c, .int .i64 d]) := by rw [h, h2]
theorem Bax (a : Int) (c : Int) (w0 w : World) (F0 : List Nat) (L G : List Res) (I : St w0 F0 w L G)  :
  Calls Tryz.prog 70 #[.int .i64 a, .int .i64 c] w fun e w' => e = .returned (.tuple #[.int .i64 (Ak a / max (Ak c) 1), .int .i64 (Ak a % max (Ak c) 1)]) ∧ St w0 F0 w' L G := by
 refine W.func func70 O ntmps70 O<|Wh O<|I.a O O<|I.a O O<|Od O<|Wq O<|?_; have ha := Bw a; have hc := Bw c; have hm : 1 ≤ max (Ak c) 1 := by omega
 have ht := A69 (a := Ak a) hm; have hti := Al8 ha hm; have hml := Int.tmod_lt_of_pos (Ak a) (b := max (Ak c) 1) (by omega); have hmr := Int.lt_tmod_of_pos (Ak a) (b := max (Ak c) 1) (by omega); refine Wr O<|I.u O O<|Ow O (X.ret Gt (Bu _ _ _ _ _ _ I ) O fun _ I => I.u O O<|Ow O (X.ret Gt (Bu _ _ _ _ _ _ I ) O fun _ I => I.y O (Y.max2 O O)<|I.a O O<|I.a O O<|Od O<|Wq O<|W.drawn O (by kernel_rfl) (Ctx _ _ (_) (_)) [] (.op 0 0 (.op 1 0 (.op 2 0 (.op 3 0 (.op 4 0 (.op 5 0 (.op 6 0 (.op 7 0 .nil)))))))) O (by kernel_rfl) I.drew.ctx<|?_)); replace I := I.drew; generalize World.drew _ = wd at I ⊢; refine I.zu O O<|I.zu O O<|I.z O (Y.quoT O O ha hm)<|I.zu O O<|I.zu O O<|I.z O (Y.rem O O (by omega))<|I.za O O<|I.za O O<|Dd<|Wq O<|Wh O<|I.u O O<|I.v O O O (fun b20 hb20 => Od O<|?_); cases b20
 ·replace hb20 := dF hb20; refine Wu O O<|Wk O<|Wh O<|I.u O O<|I.u O O<|I.a O O<|I.a O O<|Od O<|We O<|⟨_, Ac.two results70 O O, ?_⟩; exact ⟨Ak8 (ht.2 hb20).1 (ht.2 hb20).2, I⟩
 ·replace hb20 := dT hb20; refine Wt O O<|Wr O<|I.u O O<|I.y O (Y.subI O O (by omega))<|I.u O O<|I.u O O<|I.j O O O (by omega)<|I.a O O<|I.a O O<|Ds O O<|I.u O O<|I.u O O<|I.a O O<|I.a O O<|Od O<|We O<|⟨_, Ac.two results70 O O, ?_⟩; exact ⟨Ak8 (ht.1 hb20).1 (ht.1 hb20).2, I⟩
theorem Y1 (p : Par) (t : Int) (w0 w : World) (F0 : List Nat) (L G : List Res) (I : St w0 F0 w L G)  :
  Calls Tryz.prog 48 #[.agg #[.int .i64 p.N, .int .i64 p.F, .int .i64 p.D, .int .i64 p.Beat, .int .i64 p.Rho, .int .i64 p.Delay, .int .i64 p.Jitter, .int .i64 p.Eps, .int .i64 p.Mu, .int .i64 p.Hold, .int .i64 p.Pulse, .int .i64 p.Second], .int .i64 t] w fun e w' => e = .returned (.int .i64 (Cn p t)) ∧ St w0 F0 w' L G := by
 refine W.func func48 O ntmps48 O<|Wh O<|Ow O (X.boxA I O fun p2 w2 I => I.a O O<|Ds O O<|I.u O O<|I.f Ahx O O<|I.l 0 O O O O<|Ow O (X.ret Bv7 (Bax _ _ _ _ _ _ _ I ) O fun _ I => I.y O (Y.moveU O)<|I.e O O O<|I.e O O O<|I.a O O<|I.a O O<|Ds O O<|I.u O O<|I.a O O<|Od O<|We O<|⟨_, Ac.one results48 O, ?_⟩)); exact ⟨O, (I.dr 1)⟩
theorem A02 (a_t a_n : Int) (b_t b_n : Int) (w0 w : World) (F0 : List Nat) (L G : List Res) (I : St w0 F0 w L G)  :
  Calls Tryz.prog 199 #[.agg #[.int .i64 a_t, .int .i64 a_n], .agg #[.int .i64 b_t, .int .i64 b_n]] w fun e w' => ∃ b, e = .returned (.bool b) ∧ b = decide (Sta.Less ⟨a_t, a_n⟩ ⟨b_t, b_n⟩) ∧ St w0 F0 w' L G := by
 refine W.func func199 O ntmps199 O<|Wh O<|Ow O (X.boxA I O fun p2 w2 I => Ow O (X.boxA I O fun p3 w3 I => I.g O O<|Ds O O<|I.f E1 O O<|I.l 1 O O O O<|I.f E1 O O<|I.l 0 O O O O<|I.v O O O (fun b9 hb9 => I.b O O<|?_))); cases b9
 ·replace hb9 := dF hb9; refine I.f E1 O O<|I.l 1 O O O O<|I.f E1 O O<|I.l 0 O O O O<|I.Y O O O (fun b15 hb15 => I.b O O<|?_); cases b15
  ·replace hb15 := dF hb15; refine On O<|On O<|On O<|On O<|On O<|I.k O O O<|I.k O O O<|I.g O O<|Od O<|We O<|⟨_, Ac.one results199 O, ?_⟩; refine ⟨_, O, ?_, (I.dr 2)⟩; unfold Sta.Less
   first | exact (decide_eq_true (by simp only; omega)).symm | exact (decide_eq_false (by simp only; omega)).symm
  ·replace hb15 := dT hb15; refine I.f I6 O O<|I.l 1 O O O O<|I.f I6 O O<|I.l 0 O O O O<|I.v O O O (fun b21 hb21 => I.k O O O<|I.k O O O<|I.g O O<|Od O<|We O<|?_); cases b21
   ·replace hb21 := dF hb21; refine ⟨_, Ac.one results199 O, ?_⟩; refine ⟨_, O, ?_, (I.dr 2)⟩; unfold Sta.Less
    first | exact (decide_eq_true (by simp only; omega)).symm | exact (decide_eq_false (by simp only; omega)).symm
   ·replace hb21 := dT hb21; refine ⟨_, Ac.one results199 O, ?_⟩; refine ⟨_, O, ?_, (I.dr 2)⟩; unfold Sta.Less
    first | exact (decide_eq_true (by simp only; omega)).symm | exact (decide_eq_false (by simp only; omega)).symm
 ·replace hb9 := dT hb9; refine On O<|On O<|On O<|On O<|On O<|On O<|On O<|On O<|On O<|On O<|On O<|On O<|I.k O O O<|I.g O O<|Od O<|We O<|⟨_, Ac.one results199 O, ?_⟩; refine ⟨_, O, ?_, (I.dr 2)⟩; unfold Sta.Less
  first | exact (decide_eq_true (by simp only; omega)).symm | exact (decide_eq_false (by simp only; omega)).symm
theorem Ot (a_t a_n : Int) (w0 w : World) (F0 : List Nat) (L G : List Res) (I : St w0 F0 w L G)  :
  Calls Tryz.prog 42 #[.agg #[.int .i64 a_t, .int .i64 a_n]] w fun e w' => ∃ b, e = .returned (.bool b) ∧ b = decide (Sta.Right ⟨a_t, a_n⟩) ∧ St w0 F0 w' L G := by
 refine W.func func42 O ntmps42 O<|Wh O<|Ow O (X.boxA I O fun p1 w1 I => I.g O O<|Ds O O<|I.f E1 O O<|I.l 0 O O O O<|I.W O O O (fun b5 hb5 => I.b O O<|?_)); cases b5
 ·replace hb5 := dF hb5; refine On O<|On O<|On O<|I.k O O O<|I.b O O<|On O<|On O<|On O<|I.k O O O<|I.b O O<|On O<|On O<|On O<|I.k O O O<|I.g O O<|Od O<|We O<|⟨_, Ac.one results42 O, ?_⟩; refine ⟨_, O, ?_, (I.dr 1)⟩; unfold Sta.Right
  first | exact (decide_eq_true (by simp only; omega)).symm | exact (decide_eq_false (by simp only; omega)).symm
 ·replace hb5 := dT hb5; refine I.f E1 O O<|I.l 0 O O O O<|I.X O O O (fun b9 hb9 => I.k O O O<|I.b O O<|?_); cases b9
  ·replace hb9 := dF hb9; refine On O<|On O<|On O<|I.k O O O<|I.b O O<|On O<|On O<|On O<|I.k O O O<|I.g O O<|Od O<|We O<|⟨_, Ac.one results42 O, ?_⟩; refine ⟨_, O, ?_, (I.dr 1)⟩; unfold Sta.Right
   first | exact (decide_eq_true (by simp only; omega)).symm | exact (decide_eq_false (by simp only; omega)).symm
  ·replace hb9 := dT hb9; refine I.f I6 O O<|I.l 0 O O O O<|I.W O O O (fun b14 hb14 => I.k O O O<|I.b O O<|?_); cases b14
   ·replace hb14 := dF hb14; refine On O<|On O<|On O<|I.k O O O<|I.g O O<|Od O<|We O<|⟨_, Ac.one results42 O, ?_⟩; refine ⟨_, O, ?_, (I.dr 1)⟩; unfold Sta.Right
    first | exact (decide_eq_true (by simp only; omega)).symm | exact (decide_eq_false (by simp only; omega)).symm
   ·replace hb14 := dT hb14; refine I.f I6 O O<|I.l 0 O O O O<|I.X O O O (fun b19 hb19 => I.k O O O<|I.g O O<|Od O<|We O<|?_); cases b19
    ·replace hb19 := dF hb19; refine ⟨_, Ac.one results42 O, ?_⟩; refine ⟨_, O, ?_, (I.dr 1)⟩; unfold Sta.Right
     first | exact (decide_eq_true (by simp only; omega)).symm | exact (decide_eq_false (by simp only; omega)).symm
    ·replace hb19 := dT hb19; refine ⟨_, Ac.one results42 O, ?_⟩; refine ⟨_, O, ?_, (I.dr 1)⟩; unfold Sta.Right
     first | exact (decide_eq_true (by simp only; omega)).symm | exact (decide_eq_false (by simp only; omega)).symm
theorem Yp (a_t a_n : Int) (w0 w : World) (F0 : List Nat) (L G : List Res) (I : St w0 F0 w L G) (hn : a_n ≤ 9223372036854775806) :
  Calls Tryz.prog 143 #[.agg #[.int .i64 a_t, .int .i64 a_n]] w fun e w' => e = .returned (.agg #[.int .i64 (Sta.next ⟨a_t, a_n⟩).t, .int .i64 (Sta.next ⟨a_t, a_n⟩).n]) ∧ St w0 F0 w' L G := by
 refine W.func func143 O ntmps143 O<|Wh O<|Ow O (X.boxA I O fun p1 w1 I => Ow O (X.allocA I zeroValue55 fun p2 w2 I => Od O<|Wq O<|Wh O<|I.f I6 O O<|I.l 1 O O O O<|I.W O O O (fun b5 hb5 => Od O<|?_))); cases b5
 ·replace hb5 := dF hb5; refine Wu O O<|Wk O<|Wq O<|W.drawn O (by kernel_rfl) (Ctx _ _ (_) (_)) [8] (.op 0 0 (.op 1 0 (.op 3 0 (.op 4 0 (.op 5 0 (.op 6 0 (.op 2 1 (.op 7 0 (.op 8 1 .nil))))))))) O (by kernel_rfl) I.drew.ctx<|?_; replace I := I.drew; generalize World.drew _ = wd at I ⊢; refine I.zf E1 O O<|I.zl 1 O O O O<|I.zf I6 O O<|I.zl 1 O O O O<|I.z O (Y.max2 O O)<|I.zj O O O (by omega)<|Dw O (X.ret Gt (Bu _ _ _ _ _ _ I ) O fun _ I => ⟨I.ctx, I.z O (Xc O)<|Drw.z O O O O (X.storeS I 0 sizeOf55 O O O O O (lZ O) O O fun _ I => Dd<|We O<|⟨_, Ac.cell results143 O (Bd isAgg55 sizeOf55 0 I O O), ?_⟩)⟩)
  have hq : Sta.next ⟨a_t, a_n⟩ = ⟨Ak a_t, max a_n 0 + 1⟩ := by
   unfold Sta.next; rw [if_neg (by simp only; omega)]
  exact ⟨by rw [hq]; first | done | rfl, (I.dr 2)⟩
 ·replace hb5 := dT hb5; refine Wt O O<|Wh O<|I.f E1 O O<|I.l 1 O O O O<|Ow O (Xl I (by rfl) (by rfl) (by rfl) [.int _ _, .int _ _] (by rfl) (by rfl) fun p8 w8 I => ?_); refine Ow O (X.ret Dr (Ap [a_t, 1] _ _ (by simp) _ _ _ _ _ I (Rds.ofCells 0 O 2 2)) O fun _ I => ?_); refine I.y O (Qq O)<|Ow O (X.storeS I 1 sizeOf55 O O O O O (lZ O) O O fun _ I => Od O<|We O<|⟨_, Ac.cell results143 O (Bd isAgg55 sizeOf55 1 I O O), ?_⟩)
  have hq : Sta.next ⟨a_t, a_n⟩ = ⟨Bb [a_t, 1], 0⟩ := by
   unfold Sta.next; rw [if_pos (by simp only; omega)]
  exact ⟨by rw [hq]; first | done | rfl, (I.dr 3)⟩
theorem Nq (c_t c_n : Int) (now : Int) (w0 w : World) (F0 : List Nat) (L G : List Res) (I : St w0 F0 w L G) (hn : c_n ≤ 9223372036854775806) :
  Calls Tryz.prog 136 #[.agg #[.int .i64 c_t, .int .i64 c_n], .int .i64 now] w fun e w' => e = .returned (.agg #[.int .i64 (Sta.tick ⟨c_t, c_n⟩ now).t, .int .i64 (Sta.tick ⟨c_t, c_n⟩ now).n]) ∧ St w0 F0 w' L G := by
 refine W.func func136 O ntmps136 O<|Wh O<|Ow O (X.boxA I O fun p2 w2 I => Ow O (X.allocA I zeroValue244 fun p4 w4 I => Od O<|Wq O<|Wh O<|I.u O O<|Ow O (X.ret Gt (Bu _ _ _ _ _ _ I ) O fun _ I => I.a O O<|Ds O O<|I.u O O<|I.f Ig O O<|I.f E1 O O<|I.l 1 O O O O<|I.V O O O (fun b12 hb12 => Od O<|?_)))); cases b12
 ·replace hb12 := dF hb12; refine Wu O O<|Wk O<|Wh O<|I.f Ig O O<|I.y O (Y.loadA 1 isAgg55 sizeOf55 O O O O)<|Ow O (X.ret Bh2 (Yp _ _ _ _ _ _ _ I (by omega)) O fun _ I => I.y O (H6 O)<|Ow O (X.storeS I 0 sizeOf244 O O O O O (lZ O) O O fun _ I => Od O<|We O<|⟨_, Ac.cell results136 O (Bd isAgg244 sizeOf244 0 I O O), ?_⟩))
  have hq : Sta.tick ⟨c_t, c_n⟩ now = Sta.next ⟨c_t, c_n⟩ := by
   unfold Sta.tick; rw [if_neg (by simp only; omega)]
  exact ⟨by rw [hq]; first | done | rfl, (I.dr 2)⟩
 ·replace hb12 := dT hb12; refine Wt O O<|Wh O<|I.u O O<|I.y O (Qq O)<|I.y O (H6 O)<|Ow O (X.storeS I 0 sizeOf244 O O O O O (lZ O) O O fun _ I => Od O<|We O<|⟨_, Ac.cell results136 O (Bd isAgg244 sizeOf244 0 I O O), ?_⟩)
  have hq : Sta.tick ⟨c_t, c_n⟩ now = ⟨Ak now, 0⟩ := by
   unfold Sta.tick; rw [if_pos (by simp only; omega)]
  exact ⟨by rw [hq]; first | done | rfl, (I.dr 2)⟩
theorem Rz (c_t c_n : Int) (now : Int) (most : Int) (w0 w : World) (F0 : List Nat) (L G : List Res) (I : St w0 F0 w L G)  :
  Calls Tryz.prog 134 #[.agg #[.int .i64 c_t, .int .i64 c_n], .int .i64 now, .int .i64 most] w fun e w' => ∃ b, e = .returned (.tuple #[.agg #[.int .i64 (Sta.mend ⟨c_t, c_n⟩ now most).t, .int .i64 (Sta.mend ⟨c_t, c_n⟩ now most).n], .bool b]) ∧ b = decide (Sta.mended ⟨c_t, c_n⟩ most) ∧ St w0 F0 w' L G := by
 refine W.func func134 O ntmps134 O<|Wh O<|Ow O (X.boxA I O fun p3 w3 I => Ow O (X.allocA I zeroValue244 fun p6 w6 I => I.g O O<|Od O<|Wq O<|Wh O<|I.f Ig O O<|I.y O (Y.loadA 1 isAgg55 sizeOf55 O O O O)<|Ow O (X.retB Bj5 (Ot _ _ _ _ _ _ _ I ) O fun b10 w10 hb10 I => I.b O O<|?_))); cases b10
 ·replace hb10 := dF hb10; refine On O<|On O<|On O<|On O<|On O<|I.k O O O<|Od O<|Wu O O<|Wk O<|Wh O<|I.u O O<|Ow O (X.ret Gt (Bu _ _ _ _ _ _ I ) O fun w20 I => I.y O (Qq O)<|I.y O (H6 O)<|Ow O (X.storeS I 0 sizeOf244 O O O O O (lZ O) O O fun w3_4 I => I.g O O<|Od O<|We O<|⟨_, Ac.cellTmp results134 O (Bd isAgg244 sizeOf244 0 I O O) O, ?_⟩)); have hm : Sta.mended ⟨c_t, c_n⟩ most := by unfold Sta.mended Sta.Right at *; simp only at *; omega
  have hq : Sta.mend ⟨c_t, c_n⟩ now most = ⟨Ak now, 0⟩ := by unfold Sta.mend; rw [if_pos hm]
  exact ⟨true, by rw [hq]; first | done | rfl, (decide_eq_true hm).symm, (I.dr 2)⟩
 ·replace hb10 := dT hb10; refine I.f Ig O O<|I.f E1 O O<|I.l 1 O O O O<|I.u O O<|I.X O O O (fun b16 hb16 => I.k O O O<|Od O<|?_); cases b16
  ·replace hb16 := dF hb16; refine Wu O O<|Wk O<|Wh O<|I.u O O<|Ow O (X.ret Gt (Bu _ _ _ _ _ _ I ) O fun w20 I => I.y O (Qq O)<|I.y O (H6 O)<|Ow O (X.storeS I 0 sizeOf244 O O O O O (lZ O) O O fun w3_4 I => I.g O O<|Od O<|We O<|⟨_, Ac.cellTmp results134 O (Bd isAgg244 sizeOf244 0 I O O) O, ?_⟩)); have hm : Sta.mended ⟨c_t, c_n⟩ most := by unfold Sta.mended Sta.Right at *; simp only at *; omega
   have hq : Sta.mend ⟨c_t, c_n⟩ now most = ⟨Ak now, 0⟩ := by unfold Sta.mend; rw [if_pos hm]
   exact ⟨true, by rw [hq]; first | done | rfl, (decide_eq_true hm).symm, (I.dr 2)⟩
  ·replace hb16 := dT hb16; refine Wt O O<|Wh O<|I.y O (Y.loadA 1 isAgg244 sizeOf244 O O O O)<|Ow O (X.storeS I 0 sizeOf244 O O O O O (lZ O) O O fun _ I => I.g O O<|Od O<|We O<|⟨_, Ac.cellTmp results134 O (Bd isAgg244 sizeOf244 0 I O O) O, ?_⟩); have hm : ¬ Sta.mended ⟨c_t, c_n⟩ most := by unfold Sta.mended Sta.Right at *; simp only at *; omega
   have hq : Sta.mend ⟨c_t, c_n⟩ now most = ⟨c_t, c_n⟩ := by unfold Sta.mend; rw [if_neg hm]
   exact ⟨false, by rw [hq]; first | done | rfl, (decide_eq_false hm).symm, (I.dr 2)⟩
theorem Zg (time : Int) (set : Bool) (p : Par) (ticks : Int) (to : Int) (jump : Bool) (w0 w : World) (F0 : List Nat) (L G : List Res) (I : St w0 F0 w L G)  :
  Calls Tryz.prog 133 #[.agg #[.int .i64 time, .bool set], .agg #[.int .i64 p.N, .int .i64 p.F, .int .i64 p.D, .int .i64 p.Beat, .int .i64 p.Rho, .int .i64 p.Delay, .int .i64 p.Jitter, .int .i64 p.Eps, .int .i64 p.Mu, .int .i64 p.Hold, .int .i64 p.Pulse, .int .i64 p.Second], .int .i64 ticks, .int .i64 to, .bool jump] w fun e w' => e = .returned (.agg #[.int .i64 (So p time set ticks to jump), .bool true]) ∧ St w0 F0 w' L G := by
 refine W.func func133 O ntmps133 O<|Wh O<|Ow O (X.boxA I O fun p5 w5 I => Ow O (X.boxA I O fun p6 w6 I => Ow O (X.allocA I zeroValue241 fun p10 w10 I => Od O<|Wq O<|Wh O<|I.b O O<|I.b O O<|?_))); cases jump
 ·skip
  refine I.f Ahz O O<|I.y O (Y.load 2 isAgg4 O O O)<|?_; cases set
  ·skip
   refine I.q O O<|I.k O O O<|Od O<|Wt O O<|Wh O<|I.u O O<|Ow O (X.ret Gt (Bu _ _ _ _ _ _ I ) O fun w20 I => I.y O (Lb O)<|Ow O (X.storeS I 0 sizeOf241 O O O O O (lZ O) O O fun w2_3 I => Od O<|We O<|⟨_, Ac.cell results133 O (Bd isAgg241 sizeOf241 0 I O O), ?_⟩))
   have hq : So p time false ticks to false = Ak to := by
    unfold So; rw [if_pos (by simp)]
   exact ⟨by rw [hq]; first | done | rfl, (I.dr 3)⟩
  ·skip
   refine I.q O O<|I.k O O O<|Od O<|Wu O O<|Wk O<|Wh O<|I.f M5 O O<|I.l 2 O O O O<|I.u O O<|Ow O (Xl I (by rfl) (by rfl) (by rfl) [.int _ _, .int _ _] (by rfl) (by rfl) fun p25 w25 I => ?_); refine Ow O (X.ret Dr (Ap [time, ticks] _ _ (by simp) _ _ _ _ _ I (Rds.ofCells 0 O 2 2)) O fun _ I => ?_); refine I.a O O<|Od O<|Wq O<|W.drawn O (by kernel_rfl) (Ctx _ _ (_) (_)) [] (.op 0 0 (.op 1 0 (.op 3 0 (.op 4 0 (.op 6 0 (.op 7 0 (.op 2 1 (.op 5 1 (.op 8 1 (.op 9 0 .nil)))))))))) O (by kernel_rfl) I.drew.ctx<|?_; replace I := I.drew; generalize World.drew _ = wd at I ⊢; refine I.zu O O<|I.zu O O<|I.zf Vp O O<|I.zl 2 O O O O<|I.zf Vp O O<|I.zl 2 O O O O<|Dw O (X.ret S9 (Ge _ _ _ _ _ _ _ I ) O fun _ I => ⟨I.ctx, Dw O (X.ret An4 (Lj _ _ _ _ _ _ I ) O fun _ I => ⟨I.ctx, Dw O (X.ret Nv (C1 _ _ _ _ _ _ _ _ I ) O fun _ I => ⟨I.ctx, I.za O O<|Dd<|Wh O<|I.u O O<|I.u O O<|Ow O (Xl I (by rfl) (by rfl) (by rfl) [.int _ _, .int _ _] (by rfl) (by rfl) fun p38 w38 I => ?_)⟩)⟩)⟩); refine Ow O (X.ret Dr (Ap [Bb [time, ticks], Bg (sub to (Bb [time, ticks])) (neg p.Mu) p.Mu] _ _ (by simp) _ _ _ _ _ I (Rds.ofCells 0 O 2 2)) O fun _ I => ?_); refine I.y O (Lb O)<|Ow O (X.storeS I 2 sizeOf241 O O O O O (lZ O) O O fun _ I => Od O<|We O<|⟨_, Ac.cell results133 O (Bd isAgg241 sizeOf241 2 I O O), ?_⟩)
   have hq : So p time true ticks to false = Bb [Bb [time, ticks], Bg (sub to (Bb [time, ticks])) (neg p.Mu) p.Mu] := by
    unfold So; rw [if_neg (by simp)]
   exact ⟨by rw [hq]; first | done | rfl, (I.dr 5)⟩
 ·skip
  refine On O<|On O<|On O<|I.k O O O<|Od O<|Wt O O<|Wh O<|I.u O O<|Ow O (X.ret Gt (Bu _ _ _ _ _ _ I ) O fun w20 I => I.y O (Lb O)<|Ow O (X.storeS I 0 sizeOf241 O O O O O (lZ O) O O fun w2_3 I => Od O<|We O<|⟨_, Ac.cell results133 O (Bd isAgg241 sizeOf241 0 I O O), ?_⟩))
  have hq : So p time set ticks to true = Ak to := by
   unfold So; rw [if_pos (by simp)]
  exact ⟨by rw [hq]; first | done | rfl, (I.dr 3)⟩
theorem Uf (x : Int × Int) {l : List (Int × Int)} {k : Nat} (h : k < l.length) : Sta.last x (l.take (k + 1)) = (Sta.last x (l.take k)).later (Sta.of (lp l k)) := by
 unfold Sta.last; rw [List.take_succ_eq_append_getElem h, List.foldl_append]; simp [lp, h]
theorem Ap9 (x : Int × Int) (l : List (Int × Int)) (A : Option Addr) (cap : Nat) (hl : l.length < 9223372036854775807) (w0 w : World) (F0 : List Nat) (L G : List Res) (I : St w0 F0 w L G) (hr : Rds L G (.slice A (l.length + 1) cap) (l.length + 1) (lcs (x :: l))) :
  Calls Tryz.prog 193 #[.slice A (l.length + 1) cap] w fun e w' => e = .returned (.agg #[.int .i64 (Sta.last x l).t, .int .i64 (Sta.last x l).n]) ∧ St w0 F0 w' L G := by
 have hne : A ≠ none := ((hr.sl I).ne (by simp [lcs])); refine W.func func193 O ntmps193 O<|Wh O<|Ow O (X.allocA I zeroValue55 fun p2 w2 I => Ds O O<|I.s O O<|I.y O (Y.indexAddr underlying312 sizeOf55 O O hne (by omega))<|I.y O (Y.loadSlA isAgg55 sizeOf55 O (hr.cons _) (Lg (l := x :: l) (k := 0) (by simp)) O)<|?_); refine Ow O (X.allocA I zeroValue55 fun p3 w3 I => Ow O (X.storeS I 0 sizeOf55 O O O O O (lZ O) O O fun _ I => Od O<|Wq O<|Wq O<|?_)); have hrk := hr.dropN (size := 2) (k := 1) (by rw [Ea]; rfl) (by omega); rw [show l.length + 1 - 1 = l.length by omega] at hrk; change Rds L G _ l.length (lcs l) at hrk; refine Wr O<|I.s O O<|I.y O (Y.sliceLo underlying312 sizeOf55 O O (m := 1) O (by omega))<|I.y O (Y.lenS underlying312 O)<|I.u O O<|Od O<|Wb O<|?_; refine W.loop (γ := Nat) [(2, .pointer _), (3, .pointer _), (10, .slice _ _ _), (11, .int _ _)] (fun k => [(12, .int .i64 (k : Int))]) (fun k w => k ≤ l.length ∧ St w0 F0 w (Aa p3 [.int .i64 (Sta.last x (l.take k)).t, .int .i64 (Sta.last x (l.take k)).n] 55 :: Aa p2 [.int .i64 0, .int .i64 0] 55 :: L) G) (fun k => l.length - k) (0) O ⟨O, O, O, O, trivial⟩ ?_ ?_ ?_
 ·exact ⟨O, trivial⟩
 ·exact ⟨by omega, I⟩
 ·clear I; rintro k j w3 ⟨hk, I⟩; refine Wh O<|I.v O O O (fun b13 hb13 => Od O<|Wq O<|?_); cases b13
  ·replace hb13 := dF hb13; refine Wu O O<|W.exit O<|Wq O<|?_; have hk1 : k = l.length := by omega
   refine Wr O<|I.y O (Y.loadA 0 isAgg55 sizeOf55 O O O O)<|Ow O (X.storeS I 1 sizeOf55 O O O O O (lZ O) O O fun _ I => Od O<|We O<|⟨_, Ac.cell results193 O (Bd isAgg55 sizeOf55 1 I O O), ?_⟩); exact ⟨by rw [hk1, List.take_length]; rfl, (I.dr 2)⟩
  ·replace hb13 := dT hb13; refine Wt O O<|Wk O<|Wq O<|Wb O<|Wq O<|?_; have hk1 : k < l.length := by omega
   refine Wr rfl<|I.y rfl (Y.indexAddr underlying312 sizeOf55 rfl rfl ((((hrk.cons _).cons _).sl I).ne (by rw [Ea]; omega)) (by omega))<|?_; refine I.y O (Y.loadSlA isAgg55 sizeOf55 O (hrk.cons _ |>.cons _) (Lg hk1) O)<|Ow O (X.allocA I zeroValue55 fun p5 w5 I => Ow O (X.storeS I 0 sizeOf55 O O O O O (lZ O) O O fun _ I => Ds O O<|I.y O (Y.loadA 1 isAgg55 sizeOf55 O O O O)<|I.y O (Y.loadA 0 isAgg55 sizeOf55 O O O O)<|Ow O (X.retB Bq9 (A02 _ _ _ _ _ _ _ _ _ I ) O fun b18 w18 hb18 I => Od O<|?_))); cases b18
   ·replace hb18 := dF hb18; refine Wu O O<|Wk O<|Wr O<|I.j O O O (by omega)<|I.u O O<|Od O<|?_; have e := (Uf x hk1).trans (if_neg hb18); exact ⟨k + 1, ⟨O, trivial⟩, ⟨O, O, O, O, trivial⟩, ⟨by omega, by rw [e]; exact (I.dr 1)⟩, by omega⟩
   ·replace hb18 := dT hb18; refine Wt O O<|Wr O<|I.y O (Y.loadA 0 isAgg55 sizeOf55 O O O O)<|Ow O (X.storeS I 1 sizeOf55 O O O O O (lZ O) O O fun _ I => Od O<|Wr O<|I.j O O O (by omega)<|I.u O O<|Od O<|?_); have e := (Uf x hk1).trans (if_pos hb18); exact ⟨k + 1, ⟨O, trivial⟩, ⟨O, O, O, O, trivial⟩, ⟨by omega, by rw [e]; exact (I.dr 1)⟩, by omega⟩
theorem Bl5 {c_t c_n s_t s_n now : Int} (hn : c_n ≤ 9223372036854775806) (hs : s_n ≤ 1073741824) : (Sta.last (c_t, c_n) [(s_t, s_n), (Ak now, -1)]).n ≤ 9223372036854775806 := by
 simp only [Sta.last, List.foldl_cons, List.foldl_nil, Sta.of]; unfold Sta.later; have h1 : (-1 : Int) ≤ 9223372036854775806 := by decide
 have h2 : s_n ≤ 9223372036854775806 := by omega
 split <;> split <;> assumption
theorem Rj (c_t c_n : Int) (now : Int) (s_t s_n : Int) (most : Int) (w0 w : World) (F0 : List Nat) (L G : List Res) (I : St w0 F0 w L G) (hn : c_n ≤ 9223372036854775806) :
  Calls Tryz.prog 186 #[.agg #[.int .i64 c_t, .int .i64 c_n], .int .i64 now, .agg #[.int .i64 s_t, .int .i64 s_n], .int .i64 most] w fun e w' => ∃ b, e = .returned (.tuple #[.agg #[.int .i64 (Sta.hear ⟨c_t, c_n⟩ now ⟨s_t, s_n⟩ most).t, .int .i64 (Sta.hear ⟨c_t, c_n⟩ now ⟨s_t, s_n⟩ most).n], .bool b]) ∧ St w0 F0 w' L G := by
 refine W.func func186 O ntmps186 O<|Wh O<|Ow O (X.boxA I O fun p4 w4 I => Ow O (X.boxA I O fun p6 w6 I => Ow O (X.allocA I zeroValue244 fun p8 w8 I => I.g O O<|Od O<|Wq O<|Wh O<|I.y O (Y.loadA 1 isAgg55 sizeOf55 O O O O)<|Ow O (X.retB Bj5 (Ot _ _ _ _ _ _ _ I ) O fun b11 w11 hb11 I => ?_)))); cases b11
 ·replace hb11 := dF hb11; refine I.q O O<|I.b O O<|On O<|On O<|On O<|On O<|I.k O O O<|Od O<|Wt O O<|Wh O<|I.y O (Y.loadA 2 isAgg244 sizeOf244 O O O O)<|I.u O O<|Ow O (X.ret Ah5 (Nq _ _ _ _ _ _ _ _ I (by omega)) O fun w21 I => Ow O (X.storeS I 0 sizeOf244 O O O O O (lZ O) O O fun w2_3 I => I.g O O<|Od O<|We O<|⟨_, Ac.cellTmp results186 O (Bd isAgg244 sizeOf244 0 I O O) O, ?_⟩)); have hq : Sta.hear ⟨c_t, c_n⟩ now ⟨s_t, s_n⟩ most = (Sta.tick ⟨c_t, c_n⟩ now) := by unfold Sta.hear; exact if_pos (.inl hb11)
  exact ⟨false, by rw [hq]; first | done | rfl, (I.dr 3)⟩
 ·replace hb11 := dT hb11; refine I.q O O<|I.b O O<|I.f E1 O O<|I.l 1 O O O O<|I.u O O<|I.V O O O (fun b17 hb17 => I.k O O O<|Od O<|?_); cases b17
  ·replace hb17 := dF hb17; refine Wu O O<|Wk O<|Wq O<|W.drawn O (by kernel_rfl) (Ctx _ _ (_) (_)) [10, 11] (.op 0 0 (.op 1 0 (.op 2 0 (.op 3 0 (.op 4 1 (.op 5 0 (.op 6 1 (.op 7 1 (.op 8 1 (.op 9 0 (.op 10 1 (.op 11 1 .nil)))))))))))) O (by kernel_rfl) I.drew.ctx<|?_; replace I := I.drew; generalize World.drew _ = wd at I ⊢; refine I.zf Ig O O<|I.z O (Y.loadA 2 isAgg55 sizeOf55 O O O O)<|I.z O (Y.loadA 1 isAgg55 sizeOf55 O O O O)<|I.zu O O<|Dw O (X.ret Gt (Bu _ _ _ _ _ _ I ) O fun _ I => ⟨I.ctx, I.z O (Xc O)<|Dw O (X.litsS I underlying312 sizeOf55 zeroValue55 (by rfl) (vals := [(0, .agg #[.int .i64 c_t, .int .i64 c_n]), (1, .agg #[.int .i64 s_t, .int .i64 s_n]), (2, .agg #[.int .i64 (Ak now), .int .i64 (-1)])]) O (cs := lcs [(c_t, c_n), (s_t, s_n), (Ak now, -1)]) (Bt1 ..) fun p28 w28 I => ⟨(I.cx 1), ?_⟩)⟩); refine Dw O (X.ret Bq5 (Ap9 (c_t, c_n) [(s_t, s_n), (Ak now, -1)] _ _ (by simp) _ _ _ _ _ I (Rds.ofCells 0 O 3 3)) O fun _ I => ⟨(I.cx 1), ?_⟩); refine Dw O (X.ret Bh2 (Yp _ _ _ _ _ _ _ I (Bl5 hn hb11.2.2.2)) O fun _ I => ⟨(I.cx 1), Dq O (I.cx 1) (H6 O)<|Drw.z O O O O (X.storeS I 1 sizeOf244 O O O O O (lZ O) O O fun _ I => Drw.zy O O O O I.ctx (Y.assignB O)<|Dd<|We O<|⟨_, Ac.cellTmp results186 O (Bd isAgg244 sizeOf244 1 I O O) O, ?_⟩)⟩); have hq : Sta.hear ⟨c_t, c_n⟩ now ⟨s_t, s_n⟩ most = (Sta.next (Sta.last (c_t, c_n) [(s_t, s_n), (Ak now, -1)])) := by unfold Sta.hear; exact if_neg (by rintro (h | h); exact h hb11; exact hb17 h)
   exact ⟨true, by rw [hq]; first | done | rfl, (I.dr 4)⟩
  ·replace hb17 := dT hb17; refine Wt O O<|Wh O<|I.y O (Y.loadA 2 isAgg244 sizeOf244 O O O O)<|I.u O O<|Ow O (X.ret Ah5 (Nq _ _ _ _ _ _ _ _ I (by omega)) O fun w21 I => Ow O (X.storeS I 0 sizeOf244 O O O O O (lZ O) O O fun w2_3 I => I.g O O<|Od O<|We O<|⟨_, Ac.cellTmp results186 O (Bd isAgg244 sizeOf244 0 I O O) O, ?_⟩)); have hq : Sta.hear ⟨c_t, c_n⟩ now ⟨s_t, s_n⟩ most = (Sta.tick ⟨c_t, c_n⟩ now) := by unfold Sta.hear; exact if_pos (.inr hb17)
   exact ⟨false, by rw [hq]; first | done | rfl, (I.dr 3)⟩
theorem F3 : FA 23 0 0 := fun _ _ => by simp [Instr.fieldAt, Instr.sureAddr, go_sem]
theorem N0 : FA 23 1 1 := fun _ _ => by simp [Instr.fieldAt, Instr.sureAddr, go_sem]
theorem I5 : FA 23 3 3 := fun _ _ => by simp [Instr.fieldAt, Instr.sureAddr, go_sem]
theorem Bb8 : FA 23 11 11 := fun _ _ => by simp [Instr.fieldAt, Instr.sureAddr, go_sem]
theorem Abq : FA 57 2 3 := fun _ _ => by simp [Instr.fieldAt, Instr.sureAddr, go_sem]
theorem Bt : FA 57 3 4 := fun _ _ => by simp [Instr.fieldAt, Instr.sureAddr, go_sem]
theorem B3 : FA 57 4 5 := fun _ _ => by simp [Instr.fieldAt, Instr.sureAddr, go_sem]
theorem Bl : FA 57 5 6 := fun _ _ => by simp [Instr.fieldAt, Instr.sureAddr, go_sem]
theorem Ha : FA 103 0 0 := fun _ _ => by simp [Instr.fieldAt, Instr.sureAddr, go_sem]
theorem Co : FA 103 1 1 := fun _ _ => by simp [Instr.fieldAt, Instr.sureAddr, go_sem]
theorem D0 : FA 103 2 2 := fun _ _ => by simp [Instr.fieldAt, Instr.sureAddr, go_sem]
theorem Ib : FA 103 3 4 := fun _ _ => by simp [Instr.fieldAt, Instr.sureAddr, go_sem]
theorem Hb : FA 103 4 5 := fun _ _ => by simp [Instr.fieldAt, Instr.sureAddr, go_sem]
theorem M4 : FA 103 5 6 := fun _ _ => by simp [Instr.fieldAt, Instr.sureAddr, go_sem]
theorem A9x : CF 36 := fun _ _ => by simp [go_sem]
theorem Pn : CF 51 := fun _ _ => by simp [go_sem]
theorem Bh3 : CF 171 := fun _ _ => by simp [go_sem]
theorem Bq8 : CF 197 := fun _ _ => by simp [go_sem]
theorem Aw0 : CF 198 := fun _ _ => by simp [go_sem]
theorem Tv (p : Par) (w0 w : World) (F0 : List Nat) (L G : List Res) (I : St w0 F0 w L G)  :
  Calls Tryz.prog 22 #[.agg #[.int .i64 p.N, .int .i64 p.F, .int .i64 p.D, .int .i64 p.Beat, .int .i64 p.Rho, .int .i64 p.Delay, .int .i64 p.Jitter, .int .i64 p.Eps, .int .i64 p.Mu, .int .i64 p.Hold, .int .i64 p.Pulse, .int .i64 p.Second]] w fun e w' => ∃ er : Int, e = .returned (.int .i64 er) ∧ (er = 0 ↔ p.Ok) ∧ St w0 F0 w' L G := by
 refine W.func func22 O ntmps22 O<|Wh O<|Ow O (X.boxA I O fun p1 w1 I => I.a O O<|Od O<|Wq O<|?_); refine W.cut [(1, .pointer _)] (fun b3 : Bool => [(3, .bool b3)]) (fun b3 w => b3 = decide ((1 ≤ p.N ∧ p.N ≤ 16) ∧ (0 ≤ p.F ∧ p.F ≤ (p.N - 1) / 3) ∧ (0 ≤ p.D ∧ p.D ≤ 16)) ∧ St w0 F0 w (Aa p1 [.int .i64 p.N, .int .i64 p.F, .int .i64 p.D, .int .i64 p.Beat, .int .i64 p.Rho, .int .i64 p.Delay, .int .i64 p.Jitter, .int .i64 p.Eps, .int .i64 p.Mu, .int .i64 p.Hold, .int .i64 p.Pulse, .int .i64 p.Second] 23 :: L) G) ⟨O, trivial⟩ ?_ ?_
 rotate_left
 ·clear I; rintro b3 j w1 ⟨hb3, I⟩; refine Wq O ?_; refine W.cut [(1, .pointer _), (3, .bool _)] (fun b4 : Bool => [(4, .bool b4)]) (fun b4 w => b4 = decide ((1 ≤ p.Beat ∧ p.Beat ≤ 1099511627776) ∧ (0 ≤ p.Rho ∧ p.Rho ≤ p.Beat / 8) ∧ (0 ≤ p.Delay ∧ p.Delay ≤ p.Beat / 2) ∧ (0 ≤ p.Jitter ∧ p.Jitter ≤ p.Delay)) ∧ St w0 F0 w (Aa p1 [.int .i64 p.N, .int .i64 p.F, .int .i64 p.D, .int .i64 p.Beat, .int .i64 p.Rho, .int .i64 p.Delay, .int .i64 p.Jitter, .int .i64 p.Eps, .int .i64 p.Mu, .int .i64 p.Hold, .int .i64 p.Pulse, .int .i64 p.Second] 23 :: L) G) ⟨O, O, trivial⟩ ?_ ?_
  rotate_left
  ·clear I; rintro b4 j w1 ⟨hb4, I⟩; refine Wq O<|Wh O<|I.b O O<|?_; cases b3
   ·replace hb3 := dF hb3; refine I.q O O<|I.b O O<|On O<|On O<|I.k O O O<|I.b O O<|On O<|On O<|On O<|On O<|I.k O O O<|I.b O O<|On O<|On O<|On O<|On O<|On O<|On O<|On O<|On O<|On O<|On O<|I.k O O O<|I.b O O<|On O<|On O<|On O<|On O<|On O<|On O<|On O<|I.k O O O<|I.b O O<|On O<|On O<|On O<|On O<|I.k O O O<|I.b O O<|On O<|On O<|On O<|On O<|I.k O O O<|Od O<|Wt O O<|Wh O<|I.a O O<|Od O<|We O<|⟨_, Ac.one results22 O, ?_⟩; exact ⟨1, O, ⟨fun h => absurd h (by decide), fun h => by obtain ⟨_, _, _, _, _, _, _, _, _, _, _, _⟩ := h; omega⟩, (I.dr 1)⟩
   ·replace hb3 := dT hb3; refine I.q O O<|I.b O O<|I.b O O<|?_; cases b4
    ·replace hb4 := dF hb4; refine I.q O O<|I.k O O O<|I.b O O<|On O<|On O<|On O<|On O<|I.k O O O<|I.b O O<|On O<|On O<|On O<|On O<|On O<|On O<|On O<|On O<|On O<|On O<|I.k O O O<|I.b O O<|On O<|On O<|On O<|On O<|On O<|On O<|On O<|I.k O O O<|I.b O O<|On O<|On O<|On O<|On O<|I.k O O O<|I.b O O<|On O<|On O<|On O<|On O<|I.k O O O<|Od O<|Wt O O<|Wh O<|I.a O O<|Od O<|We O<|⟨_, Ac.one results22 O, ?_⟩; exact ⟨1, O, ⟨fun h => absurd h (by decide), fun h => by obtain ⟨_, _, _, _, _, _, _, _, _, _, _, _⟩ := h; omega⟩, (I.dr 1)⟩
    ·replace hb4 := dT hb4; refine I.q O O<|I.k O O O<|I.b O O<|I.f L9 O O<|I.l 0 O O O O<|Ow O (X.retB Pn (Fa _ _ _ _ _ _ _ _ I ) O fun b57 w57 hb57 I => ?_); cases b57
     ·replace hb57 := dF hb57; refine I.q O O<|I.k O O O<|I.b O O<|On O<|On O<|On O<|On O<|On O<|On O<|On O<|On O<|On O<|On O<|I.k O O O<|I.b O O<|On O<|On O<|On O<|On O<|On O<|On O<|On O<|I.k O O O<|I.b O O<|On O<|On O<|On O<|On O<|I.k O O O<|I.b O O<|On O<|On O<|On O<|On O<|I.k O O O<|Od O<|Wt O O<|Wh O<|I.a O O<|Od O<|We O<|⟨_, Ac.one results22 O, ?_⟩; exact ⟨1, O, ⟨fun h => absurd h (by decide), fun h => by obtain ⟨_, _, _, _, _, _, _, _, _, _, _, _⟩ := h; omega⟩, (I.dr 1)⟩
     ·replace hb57 := dT hb57; refine I.q O O<|I.k O O O<|I.b O O<|I.f Vp O O<|I.l 0 O O O O<|I.f F4 O O<|I.l 0 O O O O<|I.j O O O (by omega)<|I.f I5 O O<|I.l 0 O O O O<|I.y O (Y.quoI O O (by omega))<|Ow O (X.retB Pn (Fa _ _ _ _ _ _ _ _ I ) O fun b69 w69 hb69 I => ?_); cases b69
      ·replace hb69 := dF hb69; refine I.q O O<|I.k O O O<|I.b O O<|On O<|On O<|On O<|On O<|On O<|On O<|On O<|I.k O O O<|I.b O O<|On O<|On O<|On O<|On O<|I.k O O O<|I.b O O<|On O<|On O<|On O<|On O<|I.k O O O<|Od O<|Wt O O<|Wh O<|I.a O O<|Od O<|We O<|⟨_, Ac.one results22 O, ?_⟩; exact ⟨1, O, ⟨fun h => absurd h (by decide), fun h => by obtain ⟨_, _, _, _, _, _, _, _, _, _, _, _⟩ := h; omega⟩, (I.dr 1)⟩
      ·replace hb69 := dT hb69; refine I.q O O<|I.k O O O<|I.b O O<|I.f Vq O O<|I.l 0 O O O O<|I.f I4 O O<|I.l 0 O O O O<|I.j O O O (by omega)<|Ow O (X.retB Pn (Fa _ _ _ _ _ _ _ _ I ) O fun b78 w78 hb78 I => ?_); cases b78
       ·replace hb78 := dF hb78; refine I.q O O<|I.k O O O<|I.b O O<|On O<|On O<|On O<|On O<|I.k O O O<|I.b O O<|On O<|On O<|On O<|On O<|I.k O O O<|Od O<|Wt O O<|Wh O<|I.a O O<|Od O<|We O<|⟨_, Ac.one results22 O, ?_⟩; exact ⟨1, O, ⟨fun h => absurd h (by decide), fun h => by obtain ⟨_, _, _, _, _, _, _, _, _, _, _, _⟩ := h; omega⟩, (I.dr 1)⟩
       ·replace hb78 := dT hb78; refine I.q O O<|I.k O O O<|I.b O O<|I.f Ahx O O<|I.l 0 O O O O<|Ow O (X.retB Pn (Fa _ _ _ _ _ _ _ _ I ) O fun b84 w84 hb84 I => ?_); cases b84
        ·replace hb84 := dF hb84; refine I.q O O<|I.k O O O<|I.b O O<|On O<|On O<|On O<|On O<|I.k O O O<|Od O<|Wt O O<|Wh O<|I.a O O<|Od O<|We O<|⟨_, Ac.one results22 O, ?_⟩; exact ⟨1, O, ⟨fun h => absurd h (by decide), fun h => by obtain ⟨_, _, _, _, _, _, _, _, _, _, _, _⟩ := h; omega⟩, (I.dr 1)⟩
        ·replace hb84 := dT hb84; refine I.q O O<|I.k O O O<|I.b O O<|I.f Bb8 O O<|I.l 0 O O O O<|Ow O (X.retB Pn (Fa _ _ _ _ _ _ _ _ I ) O fun b90 w90 hb90 I => ?_); cases b90
         ·replace hb90 := dF hb90; refine I.q O O<|I.k O O O<|Od O<|Wt O O<|Wh O<|I.a O O<|Od O<|We O<|⟨_, Ac.one results22 O, ?_⟩; exact ⟨1, O, ⟨fun h => absurd h (by decide), fun h => by obtain ⟨_, _, _, _, _, _, _, _, _, _, _, _⟩ := h; omega⟩, (I.dr 1)⟩
         ·replace hb90 := dT hb90; refine I.q O O<|I.k O O O<|Od O<|Wu O O<|Wk O<|Wh O<|I.a O O<|Od O<|We O<|⟨_, Ac.one results22 O, ?_⟩; exact ⟨0, O, ⟨fun _ => ⟨by omega, by omega, by omega, by omega, by omega, by omega, by omega, by omega, by omega, by omega, by omega, by omega⟩, fun _ => O⟩, (I.dr 1)⟩
  refine Wr O<|I.f I5 O O<|I.l 0 O O O O<|Ow O (X.retB Pn (Fa _ _ _ _ _ _ _ _ I ) O fun b24 w24 hb24 I => I.b O O<|?_); cases b24
  ·replace hb24 := dF hb24; refine On O<|On O<|On O<|On O<|On O<|On O<|I.k O O O<|I.b O O<|On O<|On O<|On O<|On O<|On O<|On O<|I.k O O O<|I.b O O<|On O<|On O<|On O<|On O<|On O<|I.k O O O<|I.g O O<|Od O<|?_; exact ⟨_, ⟨O, trivial⟩, ⟨O, O, trivial⟩, by first | exact (decide_eq_true (by omega)).symm | exact (decide_eq_false (by omega)).symm, I⟩
  ·replace hb24 := dT hb24; refine I.f F4 O O<|I.l 0 O O O O<|I.f I5 O O<|I.l 0 O O O O<|I.y O (Y.quoI O O (by omega))<|Ow O (X.retB Pn (Fa _ _ _ _ _ _ _ _ I ) O fun b31 w31 hb31 I => I.k O O O<|I.b O O<|?_); cases b31
   ·replace hb31 := dF hb31; refine On O<|On O<|On O<|On O<|On O<|On O<|I.k O O O<|I.b O O<|On O<|On O<|On O<|On O<|On O<|I.k O O O<|I.g O O<|Od O<|?_; exact ⟨_, ⟨O, trivial⟩, ⟨O, O, trivial⟩, by first | exact (decide_eq_true (by omega)).symm | exact (decide_eq_false (by omega)).symm, I⟩
   ·replace hb31 := dT hb31; refine I.f N1 O O<|I.l 0 O O O O<|I.f I5 O O<|I.l 0 O O O O<|I.y O (Y.quoI O O (by omega))<|Ow O (X.retB Pn (Fa _ _ _ _ _ _ _ _ I ) O fun b39 w39 hb39 I => I.k O O O<|I.b O O<|?_); cases b39
    ·replace hb39 := dF hb39; refine On O<|On O<|On O<|On O<|On O<|I.k O O O<|I.g O O<|Od O<|?_; exact ⟨_, ⟨O, trivial⟩, ⟨O, O, trivial⟩, by first | exact (decide_eq_true (by omega)).symm | exact (decide_eq_false (by omega)).symm, I⟩
    ·replace hb39 := dT hb39; refine I.f Vo O O<|I.l 0 O O O O<|I.f N1 O O<|I.l 0 O O O O<|Ow O (X.retB Pn (Fa _ _ _ _ _ _ _ _ I ) O fun b46 w46 hb46 I => I.k O O O<|?_); cases b46
     ·replace hb46 := dF hb46; refine I.g O O<|Od O<|?_; exact ⟨_, ⟨O, trivial⟩, ⟨O, O, trivial⟩, by first | exact (decide_eq_true (by omega)).symm | exact (decide_eq_false (by omega)).symm, I⟩
     ·replace hb46 := dT hb46; refine I.g O O<|Od O<|?_; exact ⟨_, ⟨O, trivial⟩, ⟨O, O, trivial⟩, by first | exact (decide_eq_true (by omega)).symm | exact (decide_eq_false (by omega)).symm, I⟩
 refine Wr O<|I.f F3 O O<|I.l 0 O O O O<|Ow O (X.retB Pn (Fa _ _ _ _ _ _ _ _ I ) O fun b7 w7 hb7 I => I.b O O<|?_); cases b7
 ·replace hb7 := dF hb7; refine On O<|On O<|On O<|On O<|On O<|On O<|On O<|I.k O O O<|I.b O O<|On O<|On O<|On O<|I.k O O O<|I.g O O<|Od O<|?_; exact ⟨_, ⟨O, trivial⟩, ⟨O, trivial⟩, by first | exact (decide_eq_true (by omega)).symm | exact (decide_eq_false (by omega)).symm, I⟩
 ·replace hb7 := dT hb7; refine I.f N0 O O<|I.l 0 O O O O<|I.f F3 O O<|I.l 0 O O O O<|I.y O (Y.subI O O (by omega))<|I.y O (Y.quoI O O (by omega))<|Ow O (X.retB Pn (Fa _ _ _ _ _ _ _ _ I ) O fun b15 w15 hb15 I => I.k O O O<|I.b O O<|?_); cases b15
  ·replace hb15 := dF hb15; refine On O<|On O<|On O<|I.k O O O<|I.g O O<|Od O<|?_; exact ⟨_, ⟨O, trivial⟩, ⟨O, trivial⟩, by first | exact (decide_eq_true (by omega)).symm | exact (decide_eq_false (by omega)).symm, I⟩
  ·replace hb15 := dT hb15; refine I.f I4 O O<|I.l 0 O O O O<|Ow O (X.retB Pn (Fa _ _ _ _ _ _ _ _ I ) O fun b20 w20 hb20 I => I.k O O O<|?_); cases b20
   ·replace hb20 := dF hb20; refine I.g O O<|Od O<|?_; exact ⟨_, ⟨O, trivial⟩, ⟨O, trivial⟩, by first | exact (decide_eq_true (by omega)).symm | exact (decide_eq_false (by omega)).symm, I⟩
   ·replace hb20 := dT hb20; refine I.g O O<|Od O<|?_; exact ⟨_, ⟨O, trivial⟩, ⟨O, trivial⟩, by first | exact (decide_eq_true (by omega)).symm | exact (decide_eq_false (by omega)).symm, I⟩
theorem T9 (x : Int) (w0 w : World) (F0 : List Nat) (L G : List Res) (I : St w0 F0 w L G)  :
  Calls Tryz.prog 171 #[.int .i64 x] w fun e w' => ∃ b, e = .returned (.bool b) ∧ b = decide (False) ∧ St w0 F0 w' L G := by
 refine W.func func171 O ntmps171 O<|Wh O<|I.g O O<|Ds O O<|I.u O O<|I.u O O<|I.yb O (Y.neq O O) (fun b5 hb5 => I.g O O<|Od O<|We O<|⟨_, Ac.one results171 O, ?_⟩); exact ⟨_, O, hb5.trans (by simp), I⟩
theorem Ko (x : Int) (y : Int) (w0 w : World) (F0 : List Nat) (L G : List Res) (I : St w0 F0 w L G)  :
  Calls Tryz.prog 198 #[.int .i64 x, .int .i64 y] w fun e w' => e = .returned (.int .i64 (Qy x y)) ∧ St w0 F0 w' L G := by
 refine W.func func198 O ntmps198 O<|Wh O<|I.a O O<|Ds O O<|I.u O O<|Ow O (X.retB Bh3 (T9 _ _ _ _ _ _ I ) O fun b8 w8 hb8 I => I.g O O<|Ds O O<|I.u O O<|Ow O (X.retB Bh3 (T9 _ _ _ _ _ _ I ) O fun b10 w10 hb10 I => I.g O O<|Od O<|Wq O<|Wh O<|I.b O O<|Od O<|?_)); cases b8
 ·replace hb8 := dF hb8; refine Wu O O<|Wk O<|Wq O<|Wh O<|I.b O O<|Od O<|?_; cases b10
  ·replace hb10 := dF hb10; refine Wu O O<|Wk O<|Wq O<|Wh O<|I.u O O<|I.u O O<|I.v O O O (fun b16 hb16 => Od O<|?_); cases b16
   ·replace hb16 := dF hb16; refine Wu O O<|Wk O<|Wq O<|Wh O<|I.u O O<|I.u O O<|I.V O O O (fun b19 hb19 => Od O<|?_); cases b19
    ·replace hb19 := dF hb19; refine Wu O O<|Wk O<|Wh O<|I.a O O<|Od O<|We O<|⟨_, Ac.one results198 O, ?_⟩; exact ⟨Aj (by unfold Qy; repeat' split <;> omega), I⟩
    ·replace hb19 := dT hb19; refine Wt O O<|Wh O<|I.a O O<|Od O<|We O<|⟨_, Ac.one results198 O, ?_⟩; exact ⟨Aj (by unfold Qy; repeat' split <;> omega), I⟩
   ·replace hb16 := dT hb16; refine Wt O O<|Wh O<|I.a O O<|Od O<|We O<|⟨_, Ac.one results198 O, ?_⟩; exact ⟨Aj (by unfold Qy; repeat' split <;> omega), I⟩
  ·replace hb10 := dT hb10; exact absurd hb10 id
 ·replace hb8 := dT hb8; exact absurd hb8 id
theorem Ak1 : ∀ (l : List Int) (k : Nat), (∀ i, i < k → l.getD i 0 = 0) → k < l.length → l.getD k 0 ≠ 0 → Eo l = l.getD k 0
  | [], _, _, h, _ => by simp at h
  | x :: l, 0, _, _, h => if_pos h
  | x :: l, k + 1, h0, h, hn => by
    have e : x = 0 := h0 0 (by omega); subst e; exact Ak1 l k (fun i hi => h0 (i + 1) (by omega)) (by simpa using h) hn
theorem Ak0 : ∀ (l : List Int), (∀ i, i < l.length → l.getD i 0 = 0) → Eo l = 0
  | [], _ => rfl
  | x :: l, h => by
    have e : x = 0 := h 0 (by simp); subst e; exact Ak0 l (fun i hi => h (i + 1) (by simpa using hi))
theorem Bm1 (l : List Int) (A : Option Addr) (cap : Nat) (hl : l.length ≤ 9223372036854775807) (w0 w : World) (F0 : List Nat) (L G : List Res) (I : St w0 F0 w L G) (hr : Rds L G (.slice A l.length cap) l.length (ivs l)) :
  Calls Tryz.prog 197 #[.slice A l.length cap] w fun e w' => e = .returned (.int .i64 (Eo l)) ∧ St w0 F0 w' L G := by
 refine W.func func197 O ntmps197 O<|Wh O<|I.a O O<|Ds O O<|I.a O O<|Od O<|Wq O<|Wh O<|I.s O O<|I.y O (Y.lenS underlying24 O)<|I.u O O<|Od O<|Wb O<|?_; refine W.loop (γ := Nat) [(3, .int _ _), (6, .slice _ _ _), (7, .int _ _)] (fun k => [(8, .int .i64 (k : Int))]) (fun k w => (k ≤ l.length ∧ ∀ i, i < k → l.getD i 0 = 0) ∧ St w0 F0 w L G) (fun k => l.length - k) (0) O ⟨O, O, O, trivial⟩ ?_ ?_ ?_
 ·exact ⟨O, trivial⟩
 ·exact ⟨⟨by omega, fun i h => by omega⟩, I⟩
 ·clear I; rintro k j w3 ⟨⟨hk, h0⟩, I⟩; refine Wh O<|I.v O O O (fun b9 hb9 => Od O<|Wq O<|?_); cases b9
  ·replace hb9 := dF hb9; refine Wu O O<|W.exit O<|Wh O<|I.u O O<|I.a O O<|Od O<|We O<|⟨_, Ac.one results197 O, ?_⟩; exact ⟨Aj (Ak0 l (fun i h => h0 i (by omega))).symm, I⟩
  ·replace hb9 := dT hb9; refine Wt O O<|Wk O<|Wq O<|Wb O<|Wq O<|?_; have hk1 : k < l.length := by omega
   refine Wr rfl<|I.y rfl (Y.indexAddr underlying24 sizeOf3 rfl rfl ((hr.sl I).ne (by simp [ivs]; omega)) (by omega))<|?_; refine I.y O (Y.loadSl isAgg3 O hr (Ef hk1))<|I.a O O<|Ds O O<|I.u O O<|I.u O O<|I.yb O (Y.neq O O) (fun b14 hb14 => Od O<|?_); cases b14
   ·replace hb14 := dF hb14; refine Wu O O<|Wk O<|Wr O<|I.j O O O (by omega)<|I.u O O<|Od O<|?_; refine ⟨k + 1, ⟨O, trivial⟩, ⟨O, O, O, trivial⟩, ⟨⟨by omega, fun i h => ?_⟩, I⟩, by omega⟩; rcases (show i < k ∨ i = k by omega) with h | rfl
    ·exact h0 i h
    ·exact Decidable.not_not.1 hb14
   ·replace hb14 := dT hb14; refine Wt O O<|Wh O<|I.u O O<|I.a O O<|Od O<|We O<|⟨_, Ac.one results197 O, ?_⟩; exact ⟨Aj (Ak1 l k h0 hk1 hb14).symm, I⟩
theorem Ag2 (p : Par) (m : M) (A : Option Addr) (cap : Nat) (w0 w : World) (F0 : List Nat) (L G : List Res) (I : St w0 F0 w L G)  :
  Calls Tryz.prog 191 #[.agg #[.int .i64 p.N, .int .i64 p.F, .int .i64 p.D, .int .i64 p.Beat, .int .i64 p.Rho, .int .i64 p.Delay, .int .i64 p.Jitter, .int .i64 p.Eps, .int .i64 p.Mu, .int .i64 p.Hold, .int .i64 p.Pulse, .int .i64 p.Second], .agg #[.int .i64 m.kind, .int .i64 m.from_, .int .i64 m.slo, .int .i64 m.shi, .int .i64 m.held, .int .i64 m.hops, .bool m.good, .bool m.ref, .int .i64 m.elo, .int .i64 m.ehi, .int .i64 m.pulse, .int .i64 m.time, .int .i64 m.num, .slice A m.tab.length cap]] w fun e w' => ∃ b, e = .returned (.bool b) ∧ b = decide (C6 p m) ∧ St w0 F0 w' L G := by
 obtain ⟨kind, from_, slo, shi, held, hops, good, ref, elo, ehi, pulse, time, num, tab⟩ := m; dsimp only; refine W.func func191 O ntmps191 O<|Wh O<|Ow O (X.boxA I O fun p2 w2 I => Ow O (X.boxA I O fun p3 w3 I => I.g O O<|Ds O O<|I.f Ha O O<|I.l 0 O O O O<|I.Y O O O (fun b7 hb7 => I.b O O<|?_))); cases b7
 ·replace hb7 := dF hb7; refine On O<|On O<|I.k O O O<|I.b O O<|On O<|On O<|On O<|I.k O O O<|I.b O O<|On O<|On O<|On O<|On O<|On O<|I.k O O O<|I.b O O<|On O<|On O<|On O<|On O<|I.k O O O<|I.g O O<|Od O<|We O<|⟨_, Ac.one results191 O, ?_⟩; refine ⟨_, O, ?_, (I.dr 2)⟩; unfold C6; exact (decide_eq_false (fun h => by dsimp only at h; obtain ⟨h1, h2, h3, h4, h5⟩ := h; first | omega | cases h2)).symm
 ·replace hb7 := dT hb7; refine I.f M4 O O<|I.y O (Y.load 0 isAgg4 O O O)<|I.k O O O<|I.b O O<|?_; cases good
  ·skip
   refine On O<|On O<|On O<|I.k O O O<|I.b O O<|On O<|On O<|On O<|On O<|On O<|I.k O O O<|I.b O O<|On O<|On O<|On O<|On O<|I.k O O O<|I.g O O<|Od O<|We O<|⟨_, Ac.one results191 O, ?_⟩; refine ⟨_, O, ?_, (I.dr 2)⟩; unfold C6; exact (decide_eq_false (fun h => by dsimp only at h; obtain ⟨h1, h2, h3, h4, h5⟩ := h; first | omega | cases h2)).symm
  ·skip
   refine I.f Hb O O<|I.l 0 O O O O<|I.W O O O (fun b15 hb15 => I.k O O O<|I.b O O<|?_); cases b15
   ·replace hb15 := dF hb15; refine On O<|On O<|On O<|On O<|On O<|I.k O O O<|I.b O O<|On O<|On O<|On O<|On O<|I.k O O O<|I.g O O<|Od O<|We O<|⟨_, Ac.one results191 O, ?_⟩; refine ⟨_, O, ?_, (I.dr 2)⟩; unfold C6; exact (decide_eq_false (fun h => by dsimp only at h; obtain ⟨h1, h2, h3, h4, h5⟩ := h; first | omega | cases h2)).symm
   ·replace hb15 := dT hb15; refine I.f Hb O O<|I.l 0 O O O O<|I.f I4 O O<|I.l 1 O O O O<|I.v O O O (fun b22 hb22 => I.k O O O<|I.b O O<|?_); cases b22
    ·replace hb22 := dF hb22; refine On O<|On O<|On O<|On O<|I.k O O O<|I.g O O<|Od O<|We O<|⟨_, Ac.one results191 O, ?_⟩; refine ⟨_, O, ?_, (I.dr 2)⟩; unfold C6; exact (decide_eq_false (fun h => by dsimp only at h; obtain ⟨h1, h2, h3, h4, h5⟩ := h; first | omega | cases h2)).symm
    ·replace hb22 := dT hb22; refine I.f D0 O O<|I.y O (Y.loadA 0 isAgg53 sizeOf53 O O O O)<|Ow O (X.retB A9x (Ld _ _ _ _ _ _ _ I ) O fun b27 w27 hb27 I => ?_); cases b27
     ·replace hb27 := dF hb27; refine I.q O O<|I.k O O O<|I.g O O<|Od O<|We O<|⟨_, Ac.one results191 O, ?_⟩; refine ⟨_, O, ?_, (I.dr 2)⟩; unfold C6; exact (decide_eq_true ⟨by omega, O, by omega, by omega, by omega⟩).symm
     ·replace hb27 := dT hb27; refine I.q O O<|I.k O O O<|I.g O O<|Od O<|We O<|⟨_, Ac.one results191 O, ?_⟩; refine ⟨_, O, ?_, (I.dr 2)⟩; unfold C6; exact (decide_eq_false (fun h => by dsimp only at h; obtain ⟨h1, h2, h3, h4, h5⟩ := h; first | omega | cases h2)).symm
theorem Aa4 (m n : M) (A B : Option Addr) (cap cbp : Nat) (w0 w : World) (F0 : List Nat) (L G : List Res) (I : St w0 F0 w L G)  :
  Calls Tryz.prog 192 #[.agg #[.int .i64 m.kind, .int .i64 m.from_, .int .i64 m.slo, .int .i64 m.shi, .int .i64 m.held, .int .i64 m.hops, .bool m.good, .bool m.ref, .int .i64 m.elo, .int .i64 m.ehi, .int .i64 m.pulse, .int .i64 m.time, .int .i64 m.num, .slice A m.tab.length cap], .agg #[.int .i64 n.kind, .int .i64 n.from_, .int .i64 n.slo, .int .i64 n.shi, .int .i64 n.held, .int .i64 n.hops, .bool n.good, .bool n.ref, .int .i64 n.elo, .int .i64 n.ehi, .int .i64 n.pulse, .int .i64 n.time, .int .i64 n.num, .slice B n.tab.length cbp]] w fun e w' => e = .returned (.int .i64 (Vb m n)) ∧ St w0 F0 w' L G := by
 refine W.func func192 O ntmps192 O<|Wh O<|Ow O (X.boxA I O fun p2 w2 I => Ow O (X.boxA I O fun p3 w3 I => I.a O O<|Od O<|Wq O<|W.drawn O (by kernel_rfl) (Ctx _ _ (_) (_)) [] (.op 0 0 (.op 1 0 (.op 2 0 (.op 3 0 (.op 5 0 (.op 6 0 (.op 7 0 (.op 8 0 (.op 10 0 (.op 11 0 (.op 12 0 (.op 13 0 (.op 4 1 (.op 9 1 (.op 14 1 (.op 15 1 (.op 16 1 (.op 17 0 .nil)))))))))))))))))) O (by kernel_rfl) I.drew.ctx<|?_)); replace I := I.drew; generalize World.drew _ = wd at I ⊢; refine I.zf Hb O O<|I.zl 1 O O O O<|I.zf Hb O O<|I.zl 0 O O O O<|I.zf Ib O O<|I.zl 1 O O O O<|I.zf Ib O O<|I.zl 0 O O O O<|I.zf Co O O<|I.zl 1 O O O O<|I.zf Co O O<|I.zl 0 O O O O<|Dw O (X.ret Aw0 (Ko _ _ _ _ _ _ _ I ) O fun _ I => ⟨I.ctx, Dw O (X.ret Aw0 (Ko _ _ _ _ _ _ _ I ) O fun _ I => ⟨I.ctx, Dw O (X.ret Aw0 (Ko _ _ _ _ _ _ _ I ) O fun _ I => ⟨I.ctx, Dw O (Xl I (by rfl) (by rfl) (by rfl) [.int _ _, .int _ _, .int _ _] (by rfl) (by rfl) fun p20 w20 I => ⟨(I.cx 1), ?_⟩)⟩)⟩)⟩); refine Dw O (X.ret Bq8 (Bm1 [Qy m.hops n.hops, Qy m.held n.held, Qy m.from_ n.from_] _ _ (by simp) _ _ _ _ _ I (Rds.ofCells 0 O 3 3)) O fun _ I => ⟨(I.cx 1), ?_⟩); refine Dq O (I.cx 1) (Y.assignI O)<|Dd<|We O<|⟨_, Ac.one results192 O, ?_⟩; exact ⟨O, (I.dr 3)⟩
theorem Ui (p : Par) (s : Stt) (A : Option Addr) (cap : Nat) (w0 w : World) (F0 : List Nat) (L G : List Res) (I : St w0 F0 w L G)  :
  Calls Tryz.prog 50 #[.agg #[.int .i64 p.N, .int .i64 p.F, .int .i64 p.D, .int .i64 p.Beat, .int .i64 p.Rho, .int .i64 p.Delay, .int .i64 p.Jitter, .int .i64 p.Eps, .int .i64 p.Mu, .int .i64 p.Hold, .int .i64 p.Pulse, .int .i64 p.Second], .agg #[.int .i64 s.lo, .int .i64 s.hi, .int .i64 s.time, .bool s.set, .int .i64 s.held, .int .i64 s.hops, .bool s.good, .slice A s.tab.length cap, .int .i64 s.st, .int .i64 s.sn, .int .i64 s.life]] w fun e w' => e = .returned (.int .i64 (Bq p s)) ∧ St w0 F0 w' L G := by
 obtain ⟨lo, hi, time, set, held, hops, good, tab, st, sn, life⟩ := s; dsimp only; refine W.func func50 O ntmps50 O<|Wh O<|Ow O (X.boxA I O fun p2 w2 I => Ow O (X.boxA I O fun p3 w3 I => I.a O O<|Od O<|Wq O<|Wb O<|Wh O<|I.f Bl O O<|I.y O (Y.load 0 isAgg4 O O O)<|?_)); cases good
 ·skip
  refine I.q O O<|I.b O O<|On O<|On O<|On O<|I.k O O O<|I.b O O<|On O<|On O<|On O<|On O<|On O<|I.k O O O<|I.g O O<|Od O<|Wt O O<|Wh O<|I.a O O<|Od O<|We O<|⟨_, Ac.one results50 O, ?_⟩; exact ⟨Aj (by unfold Bq; dsimp only; first | rw [if_pos (by first | exact .inl O | exact .inr (.inl O) | exact .inr (.inr (by omega)))] | rw [if_neg (by rintro (h | h | h); cases h; cases h; omega), if_pos (by omega)] | rw [if_neg (by rintro (h | h | h); cases h; cases h; omega), if_neg (by omega)]), (I.dr 2)⟩
 ·skip
  refine I.q O O<|I.b O O<|I.f Abq O O<|I.y O (Y.load 0 isAgg4 O O O)<|?_; cases set
  ·skip
   refine I.q O O<|I.k O O O<|I.b O O<|On O<|On O<|On O<|On O<|On O<|I.k O O O<|I.g O O<|Od O<|Wt O O<|Wh O<|I.a O O<|Od O<|We O<|⟨_, Ac.one results50 O, ?_⟩; exact ⟨Aj (by unfold Bq; dsimp only; first | rw [if_pos (by first | exact .inl O | exact .inr (.inl O) | exact .inr (.inr (by omega)))] | rw [if_neg (by rintro (h | h | h); cases h; cases h; omega), if_pos (by omega)] | rw [if_neg (by rintro (h | h | h); cases h; cases h; omega), if_neg (by omega)]), (I.dr 2)⟩
  ·skip
   refine I.q O O<|I.k O O O<|I.b O O<|I.f B3 O O<|I.l 0 O O O O<|I.f I4 O O<|I.l 1 O O O O<|I.V O O O (fun b19 hb19 => I.k O O O<|I.g O O<|Od O<|?_); cases b19
   ·replace hb19 := dF hb19; refine Wu O O<|Wh O<|I.f Bt O O<|I.l 0 O O O O<|I.f Vq O O<|I.l 1 O O O O<|I.V O O O (fun b26 hb26 => I.g O O<|Od O<|?_); cases b26
    ·replace hb26 := dF hb26; refine Wu O O<|Wk O<|Wh O<|I.a O O<|Od O<|We O<|⟨_, Ac.one results50 O, ?_⟩; exact ⟨Aj (by unfold Bq; dsimp only; first | rw [if_pos (by first | exact .inl O | exact .inr (.inl O) | exact .inr (.inr (by omega)))] | rw [if_neg (by rintro (h | h | h); cases h; cases h; omega), if_pos (by omega)] | rw [if_neg (by rintro (h | h | h); cases h; cases h; omega), if_neg (by omega)]), (I.dr 2)⟩
    ·replace hb26 := dT hb26; refine Wt O O<|Wh O<|I.a O O<|Od O<|We O<|⟨_, Ac.one results50 O, ?_⟩; exact ⟨Aj (by unfold Bq; dsimp only; first | rw [if_pos (by first | exact .inl O | exact .inr (.inl O) | exact .inr (.inr (by omega)))] | rw [if_neg (by rintro (h | h | h); cases h; cases h; omega), if_pos (by omega)] | rw [if_neg (by rintro (h | h | h); cases h; cases h; omega), if_neg (by omega)]), (I.dr 2)⟩
   ·replace hb19 := dT hb19; refine Wt O O<|Wh O<|I.a O O<|Od O<|We O<|⟨_, Ac.one results50 O, ?_⟩; exact ⟨Aj (by unfold Bq; dsimp only; first | rw [if_pos (by first | exact .inl O | exact .inr (.inl O) | exact .inr (.inr (by omega)))] | rw [if_neg (by rintro (h | h | h); cases h; cases h; omega), if_pos (by omega)] | rw [if_neg (by rintro (h | h | h); cases h; cases h; omega), if_neg (by omega)]), (I.dr 2)⟩
theorem Bux : CF 52 := fun _ _ => by simp [go_sem]
theorem Bvq : CF 74 := fun _ _ => by simp [go_sem]
theorem Bw4 : CF 91 := fun _ _ => by simp [go_sem]
theorem Bw5 : CF 93 := fun _ _ => by simp [go_sem]
theorem Ad8 {x : Int} (h : 0 ≤ x ∧ x ≤ 2305843009213693952) : IntKind.u64.wrap (BitVec.ofInt IntKind.u64.bits x &&& BitVec.ofInt IntKind.u64.bits 4294967295).toNat = x % 4294967296 := by
 obtain ⟨n, rfl⟩ := Int.eq_ofNat_of_zero_le h.1; show IntKind.u64.wrap ((BitVec.ofInt 64 ((n : Nat) : Int) &&& BitVec.ofInt 64 ((4294967295 : Nat) : Int)).toNat : Int) = _; rw [BitVec.ofInt_natCast, BitVec.ofInt_natCast, BitVec.toNat_and, BitVec.toNat_ofNat, BitVec.toNat_ofNat, Nat.mod_eq_of_lt (by omega), Nat.mod_eq_of_lt (by omega), Nat.and_two_pow_sub_one_eq_mod n 32, IntKind.wrap_u64]; omega
theorem Zf (x : Int) : x.fdiv (2 ^ (min ((32 : Int)).toNat IntKind.u64.bits)) = x / 4294967296 := by
 show x.fdiv 4294967296 = _; rw [Int.fdiv_eq_ediv_of_nonneg _ (by decide)]
theorem Aqq (x : Int) (w0 w : World) (F0 : List Nat) (L G : List Res) (I : St w0 F0 w L G) (hx : 0 ≤ x ∧ x ≤ 2305843009213693952) :
  Calls Tryz.prog 91 #[.int .u64 x, .int .u64 1] w fun e w' => e = .returned (.tuple #[.int .u64 0, .int .u64 x]) ∧ St w0 F0 w' L G := by
 refine W.func func91 O ntmps91 O<|Wh O<|I.a O O<|I.a O O<|Ds O O<|I.u O O<|I.y O (Y.cast (Y.and O O) (v' := .int .u64 (x % 4294967296)) (congrArg (Value.int .u64) (Ad8 hx)))<|I.a O O<|Ds O O<|I.u O O<|I.y O (Y.cast (Y.shr O O (by decide)) (v' := .int .u64 (x / 4294967296)) (congrArg (Value.int .u64) (Zf x)))<|?_; refine I.a O O<|Ds O O<|I.u O O<|I.y O (Y.cast (Y.and O O) (v' := .int .u64 (1)) (congrArg (Value.int .u64) (Ad8 (x := 1) (by decide))))<|?_; refine I.a O O<|Ds O O<|I.u O O<|I.y O (Y.cast (Y.shr O O (by decide)) (v' := .int .u64 (0)) (congrArg (Value.int .u64) (Zf 1)))<|?_; refine I.a rfl rfl<|Ds rfl rfl<|I.u rfl rfl<|I.u rfl rfl<|I.y rfl (Y.cast (Y.mul rfl rfl) (v' := .int .u64 (x % 4294967296)) (congrArg (Value.int .u64) (by rw [IntKind.wrap_u64]; omega)))<|?_; refine I.a rfl rfl<|Ds rfl rfl<|I.u rfl rfl<|I.u rfl rfl<|I.y rfl (Y.cast (Y.mul rfl rfl) (v' := .int .u64 (x / 4294967296)) (congrArg (Value.int .u64) (by rw [IntKind.wrap_u64]; omega)))<|?_; refine I.u O O<|I.y O (Y.cast (Y.shr O O (by decide)) (v' := .int .u64 (0)) (congrArg (Value.int .u64) ((Zf _).trans (by omega))))<|?_; refine I.y rfl (Y.cast (Y.add rfl rfl) (v' := .int .u64 (x / 4294967296)) (congrArg (Value.int .u64) (by rw [IntKind.wrap_u64]; omega))) ?_; refine I.a O O<|Ds O O<|I.u O O<|I.y O (Y.cast (Y.and O O) (v' := .int .u64 (x / 4294967296)) (congrArg (Value.int .u64) ((Ad8 (by omega)).trans (by omega))))<|I.a O O<|Ds O O<|I.u O O<|I.y O (Y.cast (Y.shr O O (by decide)) (v' := .int .u64 (0)) (congrArg (Value.int .u64) ((Zf _).trans (by omega))))<|?_; refine I.a rfl rfl<|Ds rfl rfl<|I.u rfl rfl<|I.u rfl rfl<|I.u rfl rfl<|I.y rfl (Y.cast (Y.mul rfl rfl) (v' := .int .u64 (0)) (congrArg (Value.int .u64) (by rw [IntKind.wrap_u64]; omega)))<|?_; refine I.y rfl (Y.cast (Y.add rfl rfl) (v' := .int .u64 (x / 4294967296)) (congrArg (Value.int .u64) (by rw [IntKind.wrap_u64]; omega))) ?_; refine I.a rfl rfl<|Ds rfl rfl<|I.u rfl rfl<|I.u rfl rfl<|I.y rfl (Y.cast (Y.mul rfl rfl) (v' := .int .u64 (0)) (congrArg (Value.int .u64) (by rw [IntKind.wrap_u64]; omega)))<|?_; refine I.u rfl rfl<|I.y rfl (Y.cast (Y.add rfl rfl) (v' := .int .u64 (0)) (congrArg (Value.int .u64) (by rw [IntKind.wrap_u64]; omega)))<|?_; refine I.u O O<|I.y O (Y.cast (Y.shr O O (by decide)) (v' := .int .u64 (0)) (congrArg (Value.int .u64) ((Zf _).trans (by omega))))<|?_; refine I.y rfl (Y.cast (Y.add rfl rfl) (v' := .int .u64 (0)) (congrArg (Value.int .u64) (by rw [IntKind.wrap_u64]; omega))) ?_; refine I.a rfl rfl<|Ds rfl rfl<|I.u rfl rfl<|I.u rfl rfl<|I.y rfl (Y.cast (Y.mul rfl rfl) (v' := .int .u64 (x)) (congrArg (Value.int .u64) (by rw [IntKind.wrap_u64]; omega)))<|?_; refine I.a O O<|Od O<|We O<|⟨_, Ac.two results91 O O, ?_⟩; exact ⟨O, I⟩
theorem quo64 {x c : Int} (hx : 0 ≤ x ∧ x ≤ 2305843009213693952) (hc : 1 ≤ c) : IntKind.u64.wrap (x.tdiv c) = x / c := by
 have h1 := Int.ediv_nonneg (a := x) (b := c) hx.1 (by omega); have h2 := Int.ediv_le_self c hx.1; rw [Int.tdiv_eq_ediv_of_nonneg hx.1, IntKind.wrap_u64]; omega
theorem An8 (x : Int) (c : Int) (w0 w : World) (F0 : List Nat) (L G : List Res) (I : St w0 F0 w L G) (hx : 0 ≤ x ∧ x ≤ 2305843009213693952) (hc : 1 ≤ c ∧ c ≤ 2305843009213693952) :
  Calls Tryz.prog 93 #[.int .u64 0, .int .u64 x, .int .u64 c] w fun e w' => e = .returned (.tuple #[.int .u64 (x / c), .int .u64 (x % c)]) ∧ St w0 F0 w' L G := by
 refine W.func func93 O ntmps93 O<|Wh O<|I.a O O<|I.a O O<|Od O<|Wq O<|Wh O<|I.u O O<|I.Y O O O (fun b20 hb20 => Od O<|?_); cases b20
 ·replace hb20 := dF hb20; refine Wu O O<|Wk O<|Wq O<|Wh O<|I.u O O<|I.u O O<|I.X O O O (fun b24 hb24 => Od O<|?_); cases b24
  ·replace hb24 := dF hb24; refine Wu O O<|Wk O<|Wq O<|Wh O<|I.u O O<|I.Y O O O (fun b27 hb27 => Od O<|?_); cases b27
   ·replace hb27 := dF hb27; exfalso; omega
   ·replace hb27 := dT hb27; refine Wt O O<|Wq O<|W.drawn O (by kernel_rfl) (Ctx _ _ (_) (_)) [] (.op 0 0 (.op 1 0 (.op 2 0 (.op 3 0 (.op 4 0 (.op 5 0 (.op 6 0 (.op 7 0 .nil)))))))) O (by kernel_rfl) I.drew.ctx<|?_; replace I := I.drew; generalize World.drew _ = wd at I ⊢; refine I.zu O O<|I.zu O O<|I.z O (Y.cast (Y.quo O O (by omega)) (v' := .int .u64 (x / c)) (congrArg (Value.int .u64) (quo64 hx hc.1)))<|I.zu O O<|I.zu O O<|I.z O (Y.remI O O (by omega))<|I.za O O<|I.za O O<|Dd<|We O<|⟨_, Ac.two results93 O O, ?_⟩; exact ⟨O, I⟩
  ·replace hb24 := dT hb24; exfalso; omega
 ·replace hb20 := dT hb20; exfalso; omega
theorem A72 {a c : Int} (ha : 0 ≤ a) (hc : 1 ≤ c) : (0 < a % c → a / c + 1 = (a + c - 1) / c) ∧ (¬ 0 < a % c → a / c = (a + c - 1) / c) := by
 have h1 := Int.mul_ediv_add_emod a c; have h2 := Int.emod_lt_of_pos a (b := c) (by omega); have h3 := Int.emod_nonneg a (b := c) (by omega); constructor
 ·intro h; have h4 : c * (a / c + 1) = c * (a / c) + c := by rw [Int.mul_add, Int.mul_one]
  obtain ⟨e1, _⟩ := (Int.ediv_emod_unique (a := a + c - 1) (b := c) (r := a % c - 1) (q := a / c + 1) (by omega)).2 ⟨by omega, by omega, by omega⟩; exact e1.symm
 ·intro h; obtain ⟨e1, _⟩ := (Int.ediv_emod_unique (a := a + c - 1) (b := c) (r := a % c + c - 1) (q := a / c) (by omega)).2 ⟨by omega, by omega, by omega⟩; exact e1.symm
theorem Adq {a : Int} (h : 0 ≤ a ∧ a ≤ 2305843009213693952) : neg a = -a := by unfold neg; rw [Ay (by omega)]
theorem Bd3 {a : Int} (h : 0 ≤ a ∧ a ≤ 2305843009213693952) : mag (neg a) = a := by
 rw [Adq h]; unfold mag neg; split
 ·rw [Ay (by omega)]; omega
 ·rw [Ay (by omega)]; omega
theorem Bd4 : mag 1 = 1 := by unfold mag; rw [if_neg (by decide), Ay (by decide)]
theorem Ad9 (a : Int) (c : Int) (w0 w : World) (F0 : List Nat) (L G : List Res) (I : St w0 F0 w L G) (ha : 0 ≤ a ∧ a ≤ 2305843009213693952) (hc : 1 ≤ c ∧ c ≤ 2305843009213693952) :
  Calls Tryz.prog 74 #[.int .i64 (neg a), .int .i64 1, .int .i64 c] w fun e w' => e = .returned (.int .i64 (- ((a + c - 1) / c))) ∧ St w0 F0 w' L G := by
 have hng := Adq ha; have hx := Bd3 ha; have hy := Bd4; have hz : max (Ak c) 1 = c := by rw [Ay (by omega)]; omega
 have hq := A72 ha.1 hc.1; have hq0 := Int.ediv_nonneg (a := a) (b := c) ha.1 (by omega); have hq1 := Int.ediv_le_self c ha.1; have hr0 := Int.emod_nonneg a (b := c) (by omega); have hr1 := Int.emod_lt_of_pos a (b := c) (by omega); have h0 : a = 0 → a / c = 0 ∧ a % c = 0 := by rintro rfl; simp
 have hm1 : a / c + a % c ≤ a := by
  have h1 := Int.mul_ediv_add_emod a c; have h2 : 1 * (a / c) ≤ c * (a / c) := Int.mul_le_mul_of_nonneg_right hc.1 hq0; omega
 refine W.func func74 rfl ntmps74 rfl<|Wh rfl<|I.a rfl rfl<|Ds rfl rfl<|I.u rfl rfl<|Ow rfl (X.ret Aw1 (Nd _ _ _ _ _ _ I ) rfl fun _ I => I.u rfl rfl<|Ow rfl (X.ret Aw1 (Nd _ _ _ _ _ _ I ) rfl fun _ I => I.u rfl rfl<|Ow rfl (X.ret Gt (Bu _ _ _ _ _ _ I ) rfl fun _ I => I.y rfl (Y.max2 rfl rfl)<|I.a rfl rfl<|I.a rfl rfl<|I.a rfl rfl<|Ds rfl rfl<|I.u rfl rfl<|I.y rfl (Y.cast (Y.conv underlying192 underlying3 rfl) (v' := .int .u64 (a)) (congrArg (Value.int .u64) (by rw [IntKind.wrap_u64]; omega)))<|?_))); refine I.u rfl rfl<|I.y rfl (Y.cast (Y.conv underlying192 underlying3 rfl) (v' := .int .u64 (1)) (congrArg (Value.int .u64) (by rw [IntKind.wrap_u64]; omega)))<|?_; refine Ow O (X.ret Bw4 (Aqq _ _ _ _ _ _ I (by omega)) O fun _ I => I.y O (Y.moveU O)<|I.e O O O<|I.e O O O<|I.a O O<|I.a O O<|Od O<|Wq O<|?_); refine W.cut [(9, .int _ _), (10, .int _ _), (11, .int _ _)] (fun b12 : Bool => [(12, .bool b12)]) (fun b12 w => b12 = decide (0 < a) ∧ St w0 F0 w L G) ⟨O, O, O, trivial⟩ ?_ ?_
 rotate_left
 ·clear I; rintro b12 j w3 ⟨hb12, I⟩; refine Wq rfl<|Wh rfl<|I.u rfl rfl<|I.u rfl rfl<|I.y rfl (Y.cast (Y.conv underlying192 underlying3 rfl) (v' := .int .u64 (c)) (congrArg (Value.int .u64) (by rw [IntKind.wrap_u64]; omega)))<|?_; refine I.W O O O (fun b46 hb46 => Od O<|?_); cases b46
  ·replace hb46 := dF hb46; refine Wu rfl rfl<|Wk rfl<|Wh rfl<|I.u rfl rfl<|I.u rfl rfl<|I.u rfl rfl<|I.y rfl (Y.cast (Y.conv underlying192 underlying3 rfl) (v' := .int .u64 (c)) (congrArg (Value.int .u64) (by rw [IntKind.wrap_u64]; omega)))<|?_; refine Ow O (X.ret Bw5 (An8 _ _ _ _ _ _ _ I (by omega) (by omega)) O fun _ I => I.y O (Y.moveU O)<|I.e O O O<|I.e O O O<|I.a O O<|I.a O O<|Od O<|Wq O<|Wh O<|I.b O O<|I.b O O<|?_); cases b12
   ·replace hb12 := dF hb12; refine On O<|On O<|I.k O O O<|I.b O O<|On O<|On O<|I.k O O O<|Od O<|?_; refine W.cut [(12, .bool _)] (fun _ : Unit => [(13, .int .u64 ((a + c - 1) / c))]) (fun _ w => St w0 F0 w L G) ⟨O, trivial⟩ ?_ ?_
    rotate_left
    ·clear I; rintro _ j w7 I; refine Wq O<|Wh O<|I.u O O<|I.V O O O (fun b69 hb69 => Od O<|?_); cases b69
     ·replace hb69 := dF hb69; refine Wu O O<|Wk O<|Wq O<|Wh O<|I.b O O<|Od O<|Wu O O<|Wk O<|Wh O<|I.u O O<|I.y O (Y.cast (Y.conv underlying3 underlying192 O) (v' := .int .i64 ((a + c - 1) / c)) (congrArg (Value.int .i64) (IntWalk.i64_in _ (by omega))))<|I.a O O<|Od O<|We O<|⟨_, Ac.one results74 O, ?_⟩; exact ⟨Aj (by omega), I⟩
     ·replace hb69 := dT hb69; exfalso; omega
    refine Wu O O<|Wk O<|?_
    first | exact ⟨(), ⟨congrArg (Value.int .u64) (by omega), trivial⟩, ⟨O, trivial⟩, I⟩ | (exfalso; omega)
   ·replace hb12 := dT hb12; refine I.u O O<|I.V O O O (fun b60 hb60 => I.k O O O<|I.b O O<|?_); cases b60
    ·replace hb60 := dF hb60; refine On O<|On O<|I.k O O O<|Od O<|?_; refine W.cut [(12, .bool _)] (fun _ : Unit => [(13, .int .u64 ((a + c - 1) / c))]) (fun _ w => St w0 F0 w L G) ⟨O, trivial⟩ ?_ ?_
     rotate_left
     ·clear I; rintro _ j w7 I; refine Wq O<|Wh O<|I.u O O<|I.V O O O (fun b69 hb69 => Od O<|?_); cases b69
      ·replace hb69 := dF hb69; refine Wu O O<|Wk O<|Wq O<|Wh O<|I.b O O<|Od O<|Wt O O<|Wh O<|I.u O O<|I.y O (Y.cast (Y.conv underlying3 underlying192 O) (v' := .int .i64 ((a + c - 1) / c)) (congrArg (Value.int .i64) (IntWalk.i64_in _ (by omega))))<|I.y O (Y.negI O (by omega))<|I.a O O<|Od O<|We O<|⟨_, Ac.one results74 O, ?_⟩; exact ⟨Aj (by omega), I⟩
      ·replace hb69 := dT hb69; exfalso; omega
     refine Wu O O<|Wk O<|?_
     first | exact ⟨(), ⟨congrArg (Value.int .u64) (by omega), trivial⟩, ⟨O, trivial⟩, I⟩ | (exfalso; omega)
    ·replace hb60 := dT hb60; refine I.u O O<|I.v O O O (fun b64 hb64 => I.k O O O<|Od O<|?_); refine W.cut [(12, .bool _)] (fun _ : Unit => [(13, .int .u64 ((a + c - 1) / c))]) (fun _ w => St w0 F0 w L G) ⟨O, trivial⟩ ?_ ?_
     rotate_left
     ·clear I; rintro _ j w7 I; refine Wq O<|Wh O<|I.u O O<|I.V O O O (fun b69 hb69 => Od O<|?_); cases b69
      ·replace hb69 := dF hb69; refine Wu O O<|Wk O<|Wq O<|Wh O<|I.b O O<|Od O<|Wt O O<|Wh O<|I.u O O<|I.y O (Y.cast (Y.conv underlying3 underlying192 O) (v' := .int .i64 ((a + c - 1) / c)) (congrArg (Value.int .i64) (IntWalk.i64_in _ (by omega))))<|I.y O (Y.negI O (by omega))<|I.a O O<|Od O<|We O<|⟨_, Ac.one results74 O, ?_⟩; exact ⟨Aj (by omega), I⟩
      ·replace hb69 := dT hb69; exfalso; omega
     cases b64
     ·replace hb64 := dF hb64; refine Wu O O<|Wk O<|?_
      first | exact ⟨(), ⟨congrArg (Value.int .u64) (by omega), trivial⟩, ⟨O, trivial⟩, I⟩ | (exfalso; omega)
     ·replace hb64 := dT hb64; refine Wt rfl rfl<|Wr rfl<|I.u rfl rfl<|I.y rfl (Y.cast (Y.add rfl rfl) (v' := .int .u64 ((a + c - 1) / c)) (congrArg (Value.int .u64) (by rw [IntKind.wrap_u64]; omega)))<|?_; refine I.a O O<|Od O<|?_
      first | exact ⟨(), ⟨congrArg (Value.int .u64) (by omega), trivial⟩, ⟨O, trivial⟩, I⟩ | (exfalso; omega)
  ·replace hb46 := dT hb46; exfalso; omega
 refine Wr O<|I.u O O<|I.v O O O (fun b31 hb31 => ?_); cases b31
 ·replace hb31 := dF hb31; refine I.u O O<|I.v O O O (fun b33 hb33 => ?_); cases b33
  ·replace hb33 := dF hb33; refine I.yb O (Y.neB underlying4 O O) (fun b34 hb34 => I.b O O<|?_); cases b34
   ·replace hb34 := dF hb34; refine On O<|On O<|I.k O O O<|I.b O O<|On O<|On O<|I.k O O O<|I.g O O<|Od O<|?_
    first | exact ⟨_, ⟨O, trivial⟩, ⟨O, O, O, trivial⟩, (decide_eq_true (by omega)).symm, I⟩ | exact ⟨_, ⟨O, trivial⟩, ⟨O, O, O, trivial⟩, (decide_eq_false (by omega)).symm, I⟩ | exact absurd (by decide) hb34 | (exfalso; omega)
   ·replace hb34 := dT hb34; refine I.u O O<|I.yb O (Y.neq O O) (fun b37 hb37 => I.k O O O<|I.b O O<|?_); cases b37
    ·replace hb37 := dF hb37; refine On O<|On O<|I.k O O O<|I.g O O<|Od O<|?_
     first | exact ⟨_, ⟨O, trivial⟩, ⟨O, O, O, trivial⟩, (decide_eq_true (by omega)).symm, I⟩ | exact ⟨_, ⟨O, trivial⟩, ⟨O, O, O, trivial⟩, (decide_eq_false (by omega)).symm, I⟩ | exact absurd (by decide) hb34 | (exfalso; omega)
    ·replace hb37 := dT hb37; refine I.u O O<|I.yb O (Y.neq O O) (fun b41 hb41 => I.k O O O<|?_); cases b41
     ·replace hb41 := dF hb41; refine I.g O O<|Od O<|?_
      first | exact ⟨_, ⟨O, trivial⟩, ⟨O, O, O, trivial⟩, (decide_eq_true (by omega)).symm, I⟩ | exact ⟨_, ⟨O, trivial⟩, ⟨O, O, O, trivial⟩, (decide_eq_false (by omega)).symm, I⟩ | exact absurd (by decide) hb34 | (exfalso; omega)
     ·replace hb41 := dT hb41; refine I.g O O<|Od O<|?_
      first | exact ⟨_, ⟨O, trivial⟩, ⟨O, O, O, trivial⟩, (decide_eq_true (by omega)).symm, I⟩ | exact ⟨_, ⟨O, trivial⟩, ⟨O, O, O, trivial⟩, (decide_eq_false (by omega)).symm, I⟩ | exact absurd (by decide) hb34 | (exfalso; omega)
  ·replace hb33 := dT hb33; exfalso; omega
 ·replace hb31 := dT hb31; refine I.u O O<|I.v O O O (fun b33 hb33 => ?_); cases b33
  ·replace hb33 := dF hb33; refine I.yb O (Y.neB underlying4 O O) (fun b34 hb34 => I.b O O<|?_); cases b34
   ·replace hb34 := dF hb34; refine On O<|On O<|I.k O O O<|I.b O O<|On O<|On O<|I.k O O O<|I.g O O<|Od O<|?_
    first | exact ⟨_, ⟨O, trivial⟩, ⟨O, O, O, trivial⟩, (decide_eq_true (by omega)).symm, I⟩ | exact ⟨_, ⟨O, trivial⟩, ⟨O, O, O, trivial⟩, (decide_eq_false (by omega)).symm, I⟩ | exact absurd (by decide) hb34 | (exfalso; omega)
   ·replace hb34 := dT hb34; refine I.u O O<|I.yb O (Y.neq O O) (fun b37 hb37 => I.k O O O<|I.b O O<|?_); cases b37
    ·replace hb37 := dF hb37; refine On O<|On O<|I.k O O O<|I.g O O<|Od O<|?_
     first | exact ⟨_, ⟨O, trivial⟩, ⟨O, O, O, trivial⟩, (decide_eq_true (by omega)).symm, I⟩ | exact ⟨_, ⟨O, trivial⟩, ⟨O, O, O, trivial⟩, (decide_eq_false (by omega)).symm, I⟩ | exact absurd (by decide) hb34 | (exfalso; omega)
    ·replace hb37 := dT hb37; refine I.u O O<|I.yb O (Y.neq O O) (fun b41 hb41 => I.k O O O<|?_); cases b41
     ·replace hb41 := dF hb41; refine I.g O O<|Od O<|?_
      first | exact ⟨_, ⟨O, trivial⟩, ⟨O, O, O, trivial⟩, (decide_eq_true (by omega)).symm, I⟩ | exact ⟨_, ⟨O, trivial⟩, ⟨O, O, O, trivial⟩, (decide_eq_false (by omega)).symm, I⟩ | exact absurd (by decide) hb34 | (exfalso; omega)
     ·replace hb41 := dT hb41; refine I.g O O<|Od O<|?_
      first | exact ⟨_, ⟨O, trivial⟩, ⟨O, O, O, trivial⟩, (decide_eq_true (by omega)).symm, I⟩ | exact ⟨_, ⟨O, trivial⟩, ⟨O, O, O, trivial⟩, (decide_eq_false (by omega)).symm, I⟩ | exact absurd (by decide) hb34 | (exfalso; omega)
  ·replace hb33 := dT hb33; exfalso; omega
theorem Aqx (a : Int) (c : Int) (w0 w : World) (F0 : List Nat) (L G : List Res) (I : St w0 F0 w L G) (ha : 0 ≤ a ∧ a ≤ 2305843009213693952) (hc : 1 ≤ c ∧ c ≤ 2305843009213693952) :
  Calls Tryz.prog 52 #[.int .i64 a, .int .i64 1, .int .i64 c] w fun e w' => e = .returned (.int .i64 ((a + c - 1) / c)) ∧ St w0 F0 w' L G := by
 refine W.func func52 O ntmps52 O<|Wh O<|I.a O O<|Od O<|Wq O<|?_; have hng := Adq ha; have hz : max (Ak c) 1 = c := by rw [Ay (by omega)]; omega
 have hq := A72 ha.1 hc.1; have hq0 := Int.ediv_nonneg (a := a) (b := c) ha.1 (by omega); have hq1 := Int.ediv_le_self c ha.1; have hr0 := Int.emod_nonneg a (b := c) (by omega); have hr1 := Int.emod_lt_of_pos a (b := c) (by omega); have h0 : a = 0 → a / c = 0 ∧ a % c = 0 := by rintro rfl; simp
 have hm1 : a / c + a % c ≤ a := by
  have h1 := Int.mul_ediv_add_emod a c; have h2 : 1 * (a / c) ≤ c * (a / c) := Int.mul_le_mul_of_nonneg_right hc.1 hq0; omega
 refine Wr O<|I.u O O<|Ow O (X.ret An4 (Lj _ _ _ _ _ _ I ) O fun _ I => I.u O O<|I.u O O<|Ow O (X.ret Bvq (Ad9 _ _ _ _ _ _ _ I (by omega) (by omega)) O fun _ I => I.y O (Y.cast (Y.negI O (by omega)) (v' := .int .i64 ((a + c - 1) / c)) (congrArg (Value.int .i64) (by omega)))<|I.a O O<|Od O<|We O<|⟨_, Ac.one results52 O, ?_⟩)); exact ⟨O, I⟩
theorem Sn (p : Par) (w0 w : World) (F0 : List Nat) (L G : List Res) (I : St w0 F0 w L G) (hok : p.Ok) :
  Calls Tryz.prog 23 #[.agg #[.int .i64 p.N, .int .i64 p.F, .int .i64 p.D, .int .i64 p.Beat, .int .i64 p.Rho, .int .i64 p.Delay, .int .i64 p.Jitter, .int .i64 p.Eps, .int .i64 p.Mu, .int .i64 p.Hold, .int .i64 p.Pulse, .int .i64 p.Second]] w fun e w' => e = .returned (.int .i64 (settle p)) ∧ St w0 F0 w' L G := by
 have hD := hok.D; have hH := hok.Hold; have hw := Nt hok (held := p.Hold) (hops := p.D) (by omega) (by omega); have hf := mul_nonneg (a := 3) (by decide) hw; have hf2 := Blq 3 (Ju p p.Hold p.D); have hs : sub p.Mu p.Rho = p.Mu - p.Rho := Mn (by have := hok.Mu; have := hok.Rho; have := hok.Beat; omega) (by have := hok.Rho; have := hok.Beat; omega); have hm := hok.Mu
 have hbt := hok.Beat
 have hrh := hok.Rho; refine W.func func23 O ntmps23 O<|Wh O<|Ow O (X.boxA I O fun p1 w1 I => I.a O O<|Ds O O<|I.y O (Y.loadA 0 isAgg23 sizeOf23 O O O O)<|I.f Vq O O<|I.l 0 O O O O<|I.f I4 O O<|I.l 0 O O O O<|Ow O (X.ret Br8 (U5 p _ _ _ _ _ _ _ I ) O fun _ I => Ow O (X.ret Kn (Dl _ _ _ _ _ _ _ I ) O fun _ I => I.a O O<|Od O<|Wq O<|W.drawn O (by kernel_rfl) (Ctx _ _ (_) (_)) [] (.op 0 0 (.op 1 0 (.op 3 0 (.op 4 0 (.op 5 0 (.op 6 0 (.op 7 0 (.op 2 1 (.op 8 1 (.op 9 1 (.op 10 1 (.op 11 1 (.op 12 0 .nil))))))))))))) O (by kernel_rfl) I.drew.ctx<|?_))); replace I := I.drew; generalize World.drew _ = wd at I ⊢; refine I.zf I4 O O<|I.zl 0 O O O O<|I.zu O O<|I.zf Vp O O<|I.zl 0 O O O O<|I.zf F4 O O<|I.zl 0 O O O O<|Dw O (X.ret Kn (Dl _ _ _ _ _ _ _ I ) O fun _ I => ⟨I.ctx, Dw O (X.ret S9 (Ge _ _ _ _ _ _ _ I ) O fun _ I => ⟨I.ctx, Dw O (X.ret Bux (Aqx _ _ _ _ _ _ _ I (by omega) (by omega)) O fun _ I => ⟨I.ctx, Dw O (Xl I (by rfl) (by rfl) (by rfl) [.int _ _, .int _ _, .int _ _] (by rfl) (by rfl) fun p21 w21 I => ⟨(I.cx 1), ?_⟩)⟩)⟩)⟩); refine Dw O (X.ret Dr (Ap [mul 2 p.D, 6, (mul 3 (Ju p p.Hold p.D) + (sub p.Mu p.Rho) - 1) / (sub p.Mu p.Rho)] _ _ (by simp) _ _ _ _ _ I (Rds.ofCells 0 O 3 3)) O fun _ I => ⟨(I.cx 1), ?_⟩); refine Dq O (I.cx 1) (Y.assignI O)<|Dd<|We O<|⟨_, Ac.one results23 O, ?_⟩; exact ⟨O, (I.dr 2)⟩
end
end Go.Proofs.YtaanjifekgfemaaGreat.Cl
namespace Go.Proofs.YtaanjifekgfemaaGreat.K
section
open Tryz Go.RowKit
def Ae {α : Type} (c : α → List Value) (l : List α) : List Value := l.flatMap c
section
variable {α : Type} {c : α → List Value} {m : Nat}
theorem Gi (hc : ∀ x, (c x).length = m) (l : List α) : (Ae c l).length = l.length * m := by
 induction l with
 | nil => simp [Ae]
 | cons x l ih => simp only [Ae, List.flatMap_cons, List.length_append, List.length_cons, hc] at ih ⊢; rw [ih, Nat.add_mul]; omega
theorem Cy (l l' : List α) : Ae c (l ++ l') = Ae c l ++ Ae c l' := by simp [Ae]
theorem P4 (hc : ∀ x, (c x).length = m) (l : List α) (k : Nat) (h : k < l.length) : ((Ae c l).drop (k * m)).take m = c l[k] := by
  induction l generalizing k with
  | nil => simp at h
  | cons x l ih =>
    cases k with
    | zero =>
      simp only [Ae, List.flatMap_cons, Nat.zero_mul, List.drop_zero, List.getElem_cons_zero]; rw [List.take_append_of_le_length (by rw [hc]; omega), List.take_of_length_le (by rw [hc]; omega)]
    | succ k =>
      have h2 := ih k (by simpa using h); simp only [Ae, List.flatMap_cons, List.getElem_cons_succ] at h2 ⊢; rw [Nat.add_mul, Nat.one_mul, Nat.add_comm (k * m) m, ← List.drop_drop, List.drop_append, hc, Nat.sub_self, List.drop_zero, List.drop_of_length_le (l := c x) (by rw [hc]; omega), List.nil_append]; exact h2
theorem Bo (hc : ∀ x, (c x).length = m) (l : List α) (k : Nat) (h : k < l.length) : ((Ae c l).drop ((k : Int).toNat * m)).take m = c l[k] := P4 hc l k h
theorem C4 (hc : ∀ x, (c x).length = m) (l : List α) (k i : Nat) (h : k < l.length) (hi : i < m) : (Ae c l)[k * m + i]? = (c l[k])[i]? := by
 have h2 := congrArg (fun l => l[i]?) (P4 hc l k h); simp only [List.getElem?_take, hi, if_true, List.getElem?_drop] at h2; exact h2
theorem Bi {l : List α} (hc : ∀ x, (c x).length = m) (hm : 0 < m) (h : 0 < l.length) : 0 < (Ae c l).length := by
 rw [Gi hc l]; exact Nat.mul_pos h hm
end
section
variable {P : Program} {n : Fr} {c : Code} {Q : Ez} {ρ : Env} {w0 w : World} {F0 : List Nat} {L G : List Res} {S : World → Prop} {ty t t' : TypeId} {x y : Operand}
theorem X.retV {f : FuncId} {z : Nat} {xs : Array Operand} {tys : Array TypeId} {fs cs : List Value} {w1 : World} {F1 : List Nat} {L' G' : List Res} {v : Value} {args : List Value} (hfc : ∀ args w, (callFunc f args).run P w = .ok (.enter f args) w) (hx : ρ z = .func (.func f) fs.toArray cs.toArray)
  (h : Calls P f args.toArray w fun e w' => e = .returned v ∧ St w1 F1 w' L' G') (hv : fs ++ xs.toList.map (ev ρ) ++ cs = args) {K : Value → World → Prop} (k : ∀ w', St w1 F1 w' L' G' → K v w') : X P ρ w (.call { callee := .value (.tmp z), args := xs, argTypes := tys }) ty K := by
 subst hv; exact X.callV hfc hx rfl (h.mono fun _ w' ⟨h1, h2⟩ => ⟨v, h1, k w' h2⟩)
theorem X.retVB {f : FuncId} {z : Nat} {xs : Array Operand} {tys : Array TypeId} {fs cs : List Value} {w1 : World} {F1 : List Nat} {L' G' : List Res} {q : Bool} {args : List Value} (hfc : ∀ args w, (callFunc f args).run P w = .ok (.enter f args) w) (hx : ρ z = .func (.func f) fs.toArray cs.toArray)
  (h : Calls P f args.toArray w fun e w' => e = .returned (.bool q) ∧ St w1 F1 w' L' G') (hv : fs ++ xs.toList.map (ev ρ) ++ cs = args) {K : Value → World → Prop} (k : ∀ b w', b = decide (q = true) → St w1 F1 w' L' G' → K (.bool b) w') : X P ρ w (.call { callee := .value (.tmp z), args := xs, argTypes := tys }) ty K :=
 X.retV hfc hx h hv fun w' h => k q w' (by cases q <;> rfl) h
theorem Vh (d : Nat) (e : TypeId) (ht : P.underlying t = some (.slice e)) (A : Option Addr) (l c : Nat) (w : World) : (Op.equalIn (d + 1) t (.slice A l c) (.slice none 0 0)).run P w = .ok A.isNone w := by
 rw [Op.equalIn]; cases A <;> simp [run_underlying ht]
theorem Y.nilS {e : TypeId} (ht : P.underlying t = some (.slice e)) {A : Option Addr} {l c : Nat} (hx : ev ρ x = .slice A l c) : Y P S ρ (.binOp .eql t x (.const (.slice none 0 0)) t') ty (.bool A.isNone) := fun w _ o ho _ => by
 have he : ∀ w, (eqGuard .eql t x (.const (.slice none 0 0)) (.slice A l c) (.slice none 0 0)).run P w = .ok () w := fun w => by unfold eqGuard; simp
 have h2 : (Op.equal t (.slice A l c) (.slice none 0 0)).run P w = .ok A.isNone w := Vh 9999 e ht A l c w; have hy : ev ρ (.const (.slice none 0 0)) = .slice none 0 0 := rfl
 have h3 : (Go.binOp .eql t (.slice A l c) (.slice none 0 0)).run P w = .ok (.bool A.isNone) w := by
  unfold binOp; simp only [Sem.run_bind, h2, Result.andThen_ok]; rfl
 simp only [execOp, ho, hx, hy]; simp [he, h3]
end
def Aq (x : Int × Int) : List Value := [.int .i64 x.1, .int .i64 x.2]
theorem Cc (x : Int × Int) : (Aq x).length = 2 := rfl
def Di {α : Type} (p : α → Bool) (l : List α) : Int := if l.findIdx p < l.length then (l.findIdx p : Int) else -1
theorem Io {α : Type} {p : α → Bool} {l : List α} {k : Nat} (h : k < l.length) (hp : p l[k] = true) (h0 : ∀ j (hj : j < l.length), j < k → p l[j] = false) : Di p l = k := by
 have e : l.findIdx p = k := (List.findIdx_eq h).2 ⟨hp, fun j hj => h0 j (by omega) hj⟩; unfold Di; rw [e, if_pos h]
theorem Ip {α : Type} {p : α → Bool} {l : List α} (h0 : ∀ j (hj : j < l.length), p l[j] = false) : Di p l = -1 := by
 unfold Di; rw [if_neg]; intro h; have := List.findIdx_getElem (xs := l) (p := p) (w := h); rw [h0 _ h] at this; cases this
theorem P6 {α : Type} (p : α → Bool) (l : List α) : decide (Di p l ≥ 0) = decide (∃ x ∈ l, p x = true) := by
 rw [decide_eq_decide]; unfold Di; rw [← List.findIdx_lt_length (p := p)]; constructor
 ·intro h; split at h
  ·assumption
  ·omega
 ·intro h; rw [if_pos h]; omega
end
end Go.Proofs.YtaanjifekgfemaaGreat.K
namespace Go.Proofs.YtaanjifekgfemaaGreat.Cl
section
open Tryz Go.RowKit YtaanjifekgfemaaGreat.K YtaanjifekgfemaaGreat.W
attribute [local irreducible] Bg Ak Bb sub neg mag Da mul Dy
theorem Bw2 : CF 89 := fun _ _ => by simp [go_sem]
theorem Bo5 : CF 138 := fun _ _ => by simp [go_sem]
theorem Ro {α : Type} (c : α → List Value) (hc : ∀ x, (c x).length = 2) (p : α → Bool) (l : List α) (hl : l.length ≤ 9223372036854775806) (A : Option Addr) (cap : Nat) (f : FuncId) (fs cs : List Value) (hfc : ∀ args w, (callFunc f args).run Tryz.prog w = .ok (.enter f args) w) (w0 w : World) (F0 : List Nat) (L G : List Res) (I : St w0 F0 w L G) (hr : Rds L G (.slice A l.length cap) l.length (Ae c l))
  (hf : ∀ x ∈ l, ∀ w, St w0 F0 w L G → Calls Tryz.prog f (fs ++ [Value.agg (c x).toArray] ++ cs).toArray w fun e w' => e = .returned (.bool (p x)) ∧ St w0 F0 w' L G) :
  Calls Tryz.prog 89 #[.slice A l.length cap, .func (.func f) fs.toArray cs.toArray] w fun e w' => e = .returned (.int .i64 (Di p l)) ∧ St w0 F0 w' L G := by
 refine W.func func89 O ntmps89 O<|Wh O<|I.a O O<|Od O<|Wq O<|Wh O<|I.s O O<|I.y O (Y.lenS underlying41 O)<|I.u O O<|Od O<|Wb O<|?_; refine W.loop (γ := Nat) [(0, .slice _ _ _), (1, _), (7, .int _ _)] (fun k => [(8, .int .i64 (k : Int))]) (fun k w => (k ≤ l.length ∧ ∀ j (h : j < l.length), j < k → p l[j] = false) ∧ St w0 F0 w L G) (fun k => l.length - k) (0) O ⟨O, O, O, trivial⟩ ?_ ?_ ?_
 ·exact ⟨O, trivial⟩
 ·exact ⟨⟨by omega, fun j _ h => by omega⟩, I⟩
 ·clear I; rintro k j w3 ⟨⟨hk, h0⟩, I⟩; refine Wh O<|I.v O O O (fun b9 hb9 => Od O<|Wq O<|?_); cases b9
  ·replace hb9 := dF hb9; refine Wu O O<|W.exit O<|Wh O<|I.a O O<|Od O<|We O<|⟨_, Ac.one results89 O, ?_⟩; exact ⟨Aj (Ip (fun j h => h0 j h (by omega))).symm, I⟩
  ·replace hb9 := dT hb9; refine Wt O O<|Wk O<|Wq O<|Wb O<|Wh O<|I.u O O<|I.a O O<|Od O<|Wq O<|?_; have hk1 : k < l.length := by omega
   refine Wr O<|I.y O (Y.moveV O)<|I.s O O<|I.u O O<|I.y O (Y.indexAddr underlying41 sizeOf114 O O ((hr.sl I).ne (Bi hc (by decide) (by omega))) (by omega))<|?_; refine I.y O (Y.loadSlA isAgg114 sizeOf114 O hr (Bo hc l k hk1) (hc _))<|Ow O (X.retVB hfc O (hf _ (List.getElem_mem hk1) _ I) O fun b16 w16 hb16 I => Od O<|?_); cases b16
   ·replace hb16 := dF hb16; refine Wu O O<|Wk O<|Wr O<|I.j O O O (by omega)<|I.u O O<|Od O<|?_; refine ⟨k + 1, ⟨O, trivial⟩, ⟨O, O, O, trivial⟩, ⟨⟨by omega, fun j hj h => ?_⟩, I⟩, by omega⟩; rcases (show j < k ∨ j = k by omega) with h | rfl
    ·exact h0 j hj h
    ·simpa using hb16
   ·replace hb16 := dT hb16; refine Wt O O<|Wh O<|I.u O O<|I.a O O<|Od O<|We O<|⟨_, Ac.one results89 O, ?_⟩; exact ⟨Aj (Io hk1 hb16 h0).symm, I⟩
theorem Lu {α : Type} (c : α → List Value) (hc : ∀ x, (c x).length = 2) (p : α → Bool) (l : List α) (hl : l.length ≤ 9223372036854775806) (A : Option Addr) (cap : Nat) (f : FuncId) (fs cs : List Value) (hfc : ∀ args w, (callFunc f args).run Tryz.prog w = .ok (.enter f args) w) (w0 w : World) (F0 : List Nat) (L G : List Res) (I : St w0 F0 w L G) (hr : Rds L G (.slice A l.length cap) l.length (Ae c l))
  (hf : ∀ x ∈ l, ∀ w, St w0 F0 w L G → Calls Tryz.prog f (fs ++ [Value.agg (c x).toArray] ++ cs).toArray w fun e w' => e = .returned (.bool (p x)) ∧ St w0 F0 w' L G) :
  Calls Tryz.prog 78 #[.slice A l.length cap, .func (.func f) fs.toArray cs.toArray] w fun e w' => e = .returned (.int .i64 (Di p l)) ∧ St w0 F0 w' L G := by
 refine W.func func78 O ntmps78 O<|Wh O<|I.a O O<|Od O<|Wq O<|Wh O<|I.s O O<|I.y O (Y.lenS underlying25 O)<|I.u O O<|Od O<|Wb O<|?_; refine W.loop (γ := Nat) [(0, .slice _ _ _), (1, _), (7, .int _ _)] (fun k => [(8, .int .i64 (k : Int))]) (fun k w => (k ≤ l.length ∧ ∀ j (h : j < l.length), j < k → p l[j] = false) ∧ St w0 F0 w L G) (fun k => l.length - k) (0) O ⟨O, O, O, trivial⟩ ?_ ?_ ?_
 ·exact ⟨O, trivial⟩
 ·exact ⟨⟨by omega, fun j _ h => by omega⟩, I⟩
 ·clear I; rintro k j w3 ⟨⟨hk, h0⟩, I⟩; refine Wh O<|I.v O O O (fun b9 hb9 => Od O<|Wq O<|?_); cases b9
  ·replace hb9 := dF hb9; refine Wu O O<|W.exit O<|Wh O<|I.a O O<|Od O<|We O<|⟨_, Ac.one results78 O, ?_⟩; exact ⟨Aj (Ip (fun j h => h0 j h (by omega))).symm, I⟩
  ·replace hb9 := dT hb9; refine Wt O O<|Wk O<|Wq O<|Wb O<|Wh O<|I.u O O<|I.a O O<|Od O<|Wq O<|?_; have hk1 : k < l.length := by omega
   refine Wr O<|I.y O (Y.moveV O)<|I.s O O<|I.u O O<|I.y O (Y.indexAddr underlying25 sizeOf77 O O ((hr.sl I).ne (Bi hc (by decide) (by omega))) (by omega))<|?_; refine I.y O (Y.loadSlA isAgg77 sizeOf77 O hr (Bo hc l k hk1) (hc _))<|Ow O (X.retVB hfc O (hf _ (List.getElem_mem hk1) _ I) O fun b16 w16 hb16 I => Od O<|?_); cases b16
   ·replace hb16 := dF hb16; refine Wu O O<|Wk O<|Wr O<|I.j O O O (by omega)<|I.u O O<|Od O<|?_; refine ⟨k + 1, ⟨O, trivial⟩, ⟨O, O, O, trivial⟩, ⟨⟨by omega, fun j hj h => ?_⟩, I⟩, by omega⟩; rcases (show j < k ∨ j = k by omega) with h | rfl
    ·exact h0 j hj h
    ·simpa using hb16
   ·replace hb16 := dT hb16; refine Wt O O<|Wh O<|I.u O O<|I.a O O<|Od O<|We O<|⟨_, Ac.one results78 O, ?_⟩; exact ⟨Aj (Io hk1 hb16 h0).symm, I⟩
theorem Po {α : Type} (c : α → List Value) (hc : ∀ x, (c x).length = 15) (p : α → Bool) (l : List α) (hl : l.length ≤ 9223372036854775806) (A : Option Addr) (cap : Nat) (f : FuncId) (fs cs : List Value) (hfc : ∀ args w, (callFunc f args).run Tryz.prog w = .ok (.enter f args) w) (w0 w : World) (F0 : List Nat) (L G : List Res) (I : St w0 F0 w L G) (hr : Rds L G (.slice A l.length cap) l.length (Ae c l))
  (hf : ∀ x ∈ l, ∀ w, St w0 F0 w L G → Calls Tryz.prog f (fs ++ [Value.agg (c x).toArray] ++ cs).toArray w fun e w' => e = .returned (.bool (p x)) ∧ St w0 F0 w' L G) :
  Calls Tryz.prog 138 #[.slice A l.length cap, .func (.func f) fs.toArray cs.toArray] w fun e w' => e = .returned (.int .i64 (Di p l)) ∧ St w0 F0 w' L G := by
 refine W.func func138 O ntmps138 O<|Wh O<|I.a O O<|Od O<|Wq O<|Wh O<|I.s O O<|I.y O (Y.lenS underlying97 O)<|I.u O O<|Od O<|Wb O<|?_; refine W.loop (γ := Nat) [(0, .slice _ _ _), (1, _), (7, .int _ _)] (fun k => [(8, .int .i64 (k : Int))]) (fun k w => (k ≤ l.length ∧ ∀ j (h : j < l.length), j < k → p l[j] = false) ∧ St w0 F0 w L G) (fun k => l.length - k) (0) O ⟨O, O, O, trivial⟩ ?_ ?_ ?_
 ·exact ⟨O, trivial⟩
 ·exact ⟨⟨by omega, fun j _ h => by omega⟩, I⟩
 ·clear I; rintro k j w3 ⟨⟨hk, h0⟩, I⟩; refine Wh O<|I.v O O O (fun b9 hb9 => Od O<|Wq O<|?_); cases b9
  ·replace hb9 := dF hb9; refine Wu O O<|W.exit O<|Wh O<|I.a O O<|Od O<|We O<|⟨_, Ac.one results138 O, ?_⟩; exact ⟨Aj (Ip (fun j h => h0 j h (by omega))).symm, I⟩
  ·replace hb9 := dT hb9; refine Wt O O<|Wk O<|Wq O<|Wb O<|Wh O<|I.u O O<|I.a O O<|Od O<|Wq O<|?_; have hk1 : k < l.length := by omega
   refine Wr O<|I.y O (Y.moveV O)<|I.s O O<|I.u O O<|I.y O (Y.indexAddr underlying97 sizeOf138 O O ((hr.sl I).ne (Bi hc (by decide) (by omega))) (by omega))<|?_; refine I.y O (Y.loadSlA isAgg138 sizeOf138 O hr (Bo hc l k hk1) (hc _))<|Ow O (X.retVB hfc O (hf _ (List.getElem_mem hk1) _ I) O fun b16 w16 hb16 I => Od O<|?_); cases b16
   ·replace hb16 := dF hb16; refine Wu O O<|Wk O<|Wr O<|I.j O O O (by omega)<|I.u O O<|Od O<|?_; refine ⟨k + 1, ⟨O, trivial⟩, ⟨O, O, O, trivial⟩, ⟨⟨by omega, fun j hj h => ?_⟩, I⟩, by omega⟩; rcases (show j < k ∨ j = k by omega) with h | rfl
    ·exact h0 j hj h
    ·simpa using hb16
   ·replace hb16 := dT hb16; refine Wt O O<|Wh O<|I.u O O<|I.a O O<|Od O<|We O<|⟨_, Ac.one results138 O, ?_⟩; exact ⟨Aj (Io hk1 hb16 h0).symm, I⟩
theorem Rq {α : Type} (c : α → List Value) (hc : ∀ x, (c x).length = 4) (p : α → Bool) (l : List α) (hl : l.length ≤ 9223372036854775806) (A : Option Addr) (cap : Nat) (f : FuncId) (fs cs : List Value) (hfc : ∀ args w, (callFunc f args).run Tryz.prog w = .ok (.enter f args) w) (w0 w : World) (F0 : List Nat) (L G : List Res) (I : St w0 F0 w L G) (hr : Rds L G (.slice A l.length cap) l.length (Ae c l))
  (hf : ∀ x ∈ l, ∀ w, St w0 F0 w L G → Calls Tryz.prog f (fs ++ [Value.agg (c x).toArray] ++ cs).toArray w fun e w' => e = .returned (.bool (p x)) ∧ St w0 F0 w' L G) :
  Calls Tryz.prog 62 #[.slice A l.length cap, .func (.func f) fs.toArray cs.toArray] w fun e w' => e = .returned (.int .i64 (Di p l)) ∧ St w0 F0 w' L G := by
 refine W.func func62 O ntmps62 O<|Wh O<|I.a O O<|Od O<|Wq O<|Wh O<|I.s O O<|I.y O (Y.lenS underlying84 O)<|I.u O O<|Od O<|Wb O<|?_; refine W.loop (γ := Nat) [(0, .slice _ _ _), (1, _), (7, .int _ _)] (fun k => [(8, .int .i64 (k : Int))]) (fun k w => (k ≤ l.length ∧ ∀ j (h : j < l.length), j < k → p l[j] = false) ∧ St w0 F0 w L G) (fun k => l.length - k) (0) O ⟨O, O, O, trivial⟩ ?_ ?_ ?_
 ·exact ⟨O, trivial⟩
 ·exact ⟨⟨by omega, fun j _ h => by omega⟩, I⟩
 ·clear I; rintro k j w3 ⟨⟨hk, h0⟩, I⟩; refine Wh O<|I.v O O O (fun b9 hb9 => Od O<|Wq O<|?_); cases b9
  ·replace hb9 := dF hb9; refine Wu O O<|W.exit O<|Wh O<|I.a O O<|Od O<|We O<|⟨_, Ac.one results62 O, ?_⟩; exact ⟨Aj (Ip (fun j h => h0 j h (by omega))).symm, I⟩
  ·replace hb9 := dT hb9; refine Wt O O<|Wk O<|Wq O<|Wb O<|Wh O<|I.u O O<|I.a O O<|Od O<|Wq O<|?_; have hk1 : k < l.length := by omega
   refine Wr O<|I.y O (Y.moveV O)<|I.s O O<|I.u O O<|I.y O (Y.indexAddr underlying84 sizeOf96 O O ((hr.sl I).ne (Bi hc (by decide) (by omega))) (by omega))<|?_; refine I.y O (Y.loadSlA isAgg96 sizeOf96 O hr (Bo hc l k hk1) (hc _))<|Ow O (X.retVB hfc O (hf _ (List.getElem_mem hk1) _ I) O fun b16 w16 hb16 I => Od O<|?_); cases b16
   ·replace hb16 := dF hb16; refine Wu O O<|Wk O<|Wr O<|I.j O O O (by omega)<|I.u O O<|Od O<|?_; refine ⟨k + 1, ⟨O, trivial⟩, ⟨O, O, O, trivial⟩, ⟨⟨by omega, fun j hj h => ?_⟩, I⟩, by omega⟩; rcases (show j < k ∨ j = k by omega) with h | rfl
    ·exact h0 j hj h
    ·simpa using hb16
   ·replace hb16 := dT hb16; refine Wt O O<|Wh O<|I.u O O<|I.a O O<|Od O<|We O<|⟨_, Ac.one results62 O, ?_⟩; exact ⟨Aj (Io hk1 hb16 h0).symm, I⟩
theorem Xq {α : Type} {c : α → List Value} (hc : ∀ x, (c x).length = 1) (l : List α) (k : Nat) (h : k < l.length) : (Ae c l)[(k : Int).toNat * 1]? = some ((c l[k]).getD 0 undef) := by
 have h1 := C4 hc l k 0 h (by omega); have h2 := hc l[k]; rw [show (k : Int).toNat * 1 = k * 1 + 0 by omega, h1]; rw [List.getD_eq_getElem?_getD, List.getElem?_eq_getElem (by omega)]; rfl
theorem Rp {α : Type} (c : α → List Value) (hc : ∀ x, (c x).length = 1) (p : α → Bool) (l : List α) (hl : l.length ≤ 9223372036854775806) (A : Option Addr) (cap : Nat) (f : FuncId) (fs cs : List Value) (hfc : ∀ args w, (callFunc f args).run Tryz.prog w = .ok (.enter f args) w) (w0 w : World) (F0 : List Nat) (L G : List Res) (I : St w0 F0 w L G) (hr : Rds L G (.slice A l.length cap) l.length (Ae c l))
  (hf : ∀ x ∈ l, ∀ w, St w0 F0 w L G → Calls Tryz.prog f (fs ++ [(c x).getD 0 undef] ++ cs).toArray w fun e w' => e = .returned (.bool (p x)) ∧ St w0 F0 w' L G) :
  Calls Tryz.prog 189 #[.slice A l.length cap, .func (.func f) fs.toArray cs.toArray] w fun e w' => e = .returned (.int .i64 (Di p l)) ∧ St w0 F0 w' L G := by
 refine W.func func189 O ntmps189 O<|Wh O<|I.a O O<|Od O<|Wq O<|Wh O<|I.s O O<|I.y O (Y.lenS underlying290 O)<|I.u O O<|Od O<|Wb O<|?_; refine W.loop (γ := Nat) [(0, .slice _ _ _), (1, _), (7, .int _ _)] (fun k => [(8, .int .i64 (k : Int))]) (fun k w => (k ≤ l.length ∧ ∀ j (h : j < l.length), j < k → p l[j] = false) ∧ St w0 F0 w L G) (fun k => l.length - k) (0) O ⟨O, O, O, trivial⟩ ?_ ?_ ?_
 ·exact ⟨O, trivial⟩
 ·exact ⟨⟨by omega, fun j _ h => by omega⟩, I⟩
 ·clear I; rintro k j w3 ⟨⟨hk, h0⟩, I⟩; refine Wh O<|I.v O O O (fun b9 hb9 => Od O<|Wq O<|?_); cases b9
  ·replace hb9 := dF hb9; refine Wu O O<|W.exit O<|Wh O<|I.a O O<|Od O<|We O<|⟨_, Ac.one results189 O, ?_⟩; exact ⟨Aj (Ip (fun j h => h0 j h (by omega))).symm, I⟩
  ·replace hb9 := dT hb9; refine Wt O O<|Wk O<|Wq O<|Wb O<|Wh O<|I.u O O<|I.a O O<|Od O<|Wq O<|?_; have hk1 : k < l.length := by omega
   refine Wr O<|I.y O (Y.moveV O)<|I.s O O<|I.u O O<|I.y O (Y.indexAddr underlying290 sizeOf41 O O ((hr.sl I).ne (Bi hc (by decide) (by omega))) (by omega))<|?_; refine I.y O (Y.loadSl isAgg41 O hr (Xq hc l k hk1))<|Ow O (X.retVB hfc O (hf _ (List.getElem_mem hk1) _ I) O fun b16 w16 hb16 I => Od O<|?_); cases b16
   ·replace hb16 := dF hb16; refine Wu O O<|Wk O<|Wr O<|I.j O O O (by omega)<|I.u O O<|Od O<|?_; refine ⟨k + 1, ⟨O, trivial⟩, ⟨O, O, O, trivial⟩, ⟨⟨by omega, fun j hj h => ?_⟩, I⟩, by omega⟩; rcases (show j < k ∨ j = k by omega) with h | rfl
    ·exact h0 j hj h
    ·simpa using hb16
   ·replace hb16 := dT hb16; refine Wt O O<|Wh O<|I.u O O<|I.a O O<|Od O<|We O<|⟨_, Ac.one results189 O, ?_⟩; exact ⟨Aj (Io hk1 hb16 h0).symm, I⟩
theorem My {α : Type} (c : α → List Value) (hc : ∀ x, (c x).length = 2) (p : α → Bool) (l : List α) (hl : l.length ≤ 9223372036854775806) (A : Option Addr) (cap : Nat) (f : FuncId) (fs cs : List Value) (hfc : ∀ args w, (callFunc f args).run Tryz.prog w = .ok (.enter f args) w) (w0 w : World) (F0 : List Nat) (L G : List Res) (I : St w0 F0 w L G) (hr : Rds L G (.slice A l.length cap) l.length (Ae c l))
  (hf : ∀ x ∈ l, ∀ w, St w0 F0 w L G → Calls Tryz.prog f (fs ++ [Value.agg (c x).toArray] ++ cs).toArray w fun e w' => e = .returned (.bool (p x)) ∧ St w0 F0 w' L G) :
  Calls Tryz.prog 65 #[.slice A l.length cap, .func (.func f) fs.toArray cs.toArray] w fun e w' => ∃ b, e = .returned (.bool b) ∧ b = decide (∃ x ∈ l, p x = true) ∧ St w0 F0 w' L G := by
 refine W.func func65 O ntmps65 O<|Wh O<|I.g O O<|Ds O O<|I.s O O<|I.y O (Y.moveV O)<|Ow O (X.ret Bw2 (Ro c hc p l hl _ _ f fs cs hfc _ _ _ _ _ I hr hf) O fun _ I => I.W O O O (fun b8 hb8 => I.g O O<|Od O<|We O<|⟨_, Ac.one results65 O, ?_⟩)); exact ⟨_, O, hb8.trans (P6 p l), I⟩
theorem Hv {α : Type} (c : α → List Value) (hc : ∀ x, (c x).length = 15) (p : α → Bool) (l : List α) (hl : l.length ≤ 9223372036854775806) (A : Option Addr) (cap : Nat) (f : FuncId) (fs cs : List Value) (hfc : ∀ args w, (callFunc f args).run Tryz.prog w = .ok (.enter f args) w) (w0 w : World) (F0 : List Nat) (L G : List Res) (I : St w0 F0 w L G) (hr : Rds L G (.slice A l.length cap) l.length (Ae c l))
  (hf : ∀ x ∈ l, ∀ w, St w0 F0 w L G → Calls Tryz.prog f (fs ++ [Value.agg (c x).toArray] ++ cs).toArray w fun e w' => e = .returned (.bool (p x)) ∧ St w0 F0 w' L G) :
  Calls Tryz.prog 125 #[.slice A l.length cap, .func (.func f) fs.toArray cs.toArray] w fun e w' => ∃ b, e = .returned (.bool b) ∧ b = decide (∃ x ∈ l, p x = true) ∧ St w0 F0 w' L G := by
 refine W.func func125 O ntmps125 O<|Wh O<|I.g O O<|Ds O O<|I.s O O<|I.y O (Y.moveV O)<|Ow O (X.ret Bo5 (Po c hc p l hl _ _ f fs cs hfc _ _ _ _ _ I hr hf) O fun _ I => I.W O O O (fun b8 hb8 => I.g O O<|Od O<|We O<|⟨_, Ac.one results125 O, ?_⟩)); exact ⟨_, O, hb8.trans (P6 p l), I⟩
end
end Go.Proofs.YtaanjifekgfemaaGreat.Cl
namespace Go.Proofs.YtaanjifekgfemaaGreat.K
section
open Tryz Go.RowKit
section
variable {P : Program} {n : Fr} {c : Code} {Q : Ez} {ρ : Env} {w0 w : World} {F0 : List Nat} {L G : List Res} {S : World → Prop} {ty t t' : TypeId} {x y : Operand}
theorem Zh {cs : List Value} {i k : Nat} {vs : List Value} (h : i + vs.length ≤ k) (hk : k ≤ cs.length) : (splice cs i vs).take k = splice (cs.take k) i vs := by
 have h1 : (cs.take i ++ vs).length = i + vs.length := by rw [List.length_append, List.length_take]; omega
 unfold splice; rw [List.take_append, List.take_of_length_le (by omega), h1, List.take_take, Nat.min_eq_left (by omega)]
 congr 1
 rw [← List.drop_take]
theorem Jr {b m cap size : Nat} {e : TypeId} {xs : List Value} (h : (Af (.slice (some ⟨b, 0, none⟩) m cap) e size m xs).holds w) :
  ∃ cur : List Value, w.heap[b]? = some (.cells cur.toArray e (0, 0)) ∧ m ≤ cap ∧ cap ≤ maxLen ∧ cur.length = cap * size ∧ cur.take (m * size) = xs ∧ xs.length = m * size := by
 rcases h.2 with ⟨h0, _⟩ | ⟨g, cp, cur, hv, _, hg, h1, h2, h3, h4⟩
 ·cases h0
 ·injection hv with hv _ hc; injection hv with hv; injection hv with hv; subst hv; subst hc; exact ⟨cur.toList, by simpa using hg, h1, h2, by simpa using h3, h4, h.1⟩
theorem A4z {b m cap size : Nat} {e : TypeId} {cur : List Value} (hg : w.heap[b]? = some (.cells cur.toArray e (0, 0))) (h1 : m ≤ cap) (h2 : cap ≤ maxLen) (h3 : cur.length = cap * size) : (Af (.slice (some ⟨b, 0, none⟩) m cap) e size m (cur.take (m * size))).holds w :=
 ⟨by rw [List.length_take, h3, Nat.min_eq_left (Nat.mul_le_mul_right _ h1)], .inr ⟨b, cap, cur.toArray, rfl, Nat.zero_le _, hg, h1, h2, by simpa using h3, rfl⟩⟩
theorem St.layRow {b m cap size : Nat} {e : TypeId} {xs : List Value} (h : St w0 F0 w L G) {j : Nat} (hL : L[j]? = some (Af (.slice (some ⟨b, 0, none⟩) m cap) e size m xs)) (i : Nat) (vs : List Value) (hi : i + vs.length ≤ m * size) (h1 : ∀ v ∈ vs, v.oneCell' = true) :
  ∃ w', (storeCells ⟨b, i, none⟩ vs).run P w = .ok () w' ∧ St w0 F0 w' (L.set j (Af (.slice (some ⟨b, 0, none⟩) m cap) e size m (Go.Proofs.YtaanjifekgfemaaGreat.K.splice xs i vs))) G := by
 obtain ⟨cur, hg, hm, hc, hl, hx, hxl⟩ := Jr (h.res _ (List.mem_of_getElem? hL)); have hms : m * size ≤ cap * size := Nat.mul_le_mul_right _ hm; have hr := Fv (P := P) (w := w) (b := b) (cs := cur) (e := e) ⟨(0, 0), hg, .inl rfl⟩ i vs (by omega) h1; refine ⟨_, hr, ?_⟩; refine (St.step (w' := w.setRow b (Go.Proofs.YtaanjifekgfemaaGreat.K.splice cur i vs).toArray) (L1 := [Af (.slice (some ⟨b, 0, none⟩) m cap) e size m xs]) (L2 := [Af (.slice (some ⟨b, 0, none⟩) m cap) e size m (Go.Proofs.YtaanjifekgfemaaGreat.K.splice xs i vs)]) (h.perm (Hg hL)) rfl rfl rfl (by simp) ?_ (fun b' hb' => .inl (by simpa using hb')) (by simp [Ch]) ?_).perm (Gp hL)
 ·intro k hk hn; exact setRow_other _ _ _ _ (by simpa [Ch] using hn)
 ·intro r hr; simp at hr; subst hr; have h2 := A4z (w := w.setRow b (Go.Proofs.YtaanjifekgfemaaGreat.K.splice cur i vs).toArray) (b := b) (m := m) (cap := cap) (size := size) (e := e) (cur := Go.Proofs.YtaanjifekgfemaaGreat.K.splice cur i vs) (setRow_heap _ _ _ _ _ _ hg) hm hc (by rw [Gd _ _ _ (by omega)]; exact hl); rwa [Zh (by omega) (by omega), hx] at h2
theorem X.storeRow (I : St w0 F0 w L G) (j : Nat) {sz : Nat} (hsz : ∀ w, (sizeOf t).run P w = .ok sz w) {b i : Nat} (hx : ev ρ x = .pointer (some ⟨b, i, none⟩)) {m cap size : Nat} {xs : List Value} {e : TypeId} (hL : L[j]? = some (Af (.slice (some ⟨b, 0, none⟩) m cap) e size m xs))
  {vs : List Value} (hy : ev ρ y = .agg vs.toArray) (hm : vs.length = sz) (h1 : ∀ v ∈ vs, v.oneCell' = true) (hi : i + sz ≤ m * size) {K : Value → World → Prop}
  (k : ∀ w', St w0 F0 w' (L.set j (Af (.slice (some ⟨b, 0, none⟩) m cap) e size m (splice xs i vs))) G → K undef w') : X P ρ w (.store t x y) ty K := by
 subst hm; obtain ⟨w', hr, h⟩ := I.layRow (P := P) hL i vs hi h1; intro a ops Q o ho _ ha hw; refine S5 hw (w' := w') ?_ ⟨_, O, k w' h⟩; rw [ha] at *; simp [execOp, ho, Instr.storeAt, Instr.sureAddr, hx, hy, storeVar, hsz, Value.cells, hr]
theorem St.rowTake {b m cap size k : Nat} {e : TypeId} {xs : List Value} (h : St w0 F0 w (Af (.slice (some ⟨b, 0, none⟩) m cap) e size m xs :: L) G) (hk : k ≤ m) : St w0 F0 w (Af (.slice (some ⟨b, 0, none⟩) k cap) e size k (xs.take (k * size)) :: L) G := by
 refine h.turn1 (by simp [Ch]) (by simp [Ch]) (fun hh => ?_); obtain ⟨cur, hg, hm, hc, hl, hx, hxl⟩ := Jr hh; have h2 := A4z (w := w) (b := b) (m := k) (cap := cap) (size := size) (e := e) (cur := cur) hg (by omega) hc hl; rw [← hx, List.take_take, Nat.min_eq_left (Nat.mul_le_mul_right _ hk)]; exact h2
theorem X.clearRow (I : St w0 F0 w L G) (j : Nat) {e : TypeId} (ht : P.underlying t = some (.slice e)) {z : Value} (hz : ∀ w, (zeroValue e).run P w = .ok z w) {zs : List Value} (hzs : z.cells = zs.toArray) (hz1 : ∀ v ∈ zs, v.oneCell' = true)
  {b m cap size k : Nat} {xs : List Value} (hzl : zs.length = size) (hx : ev ρ x = .slice (Sf (some ⟨b, 0, none⟩) cap k size) (m - k) (cap - k)) (hL : L[j]? = some (Af (.slice (some ⟨b, 0, none⟩) m cap) e size m xs)) (hk : k ≤ m) {K : Value → World → Prop}
  (hK : ∀ w' ys, ys.length = m * size → ys.take (k * size) = xs.take (k * size) → St w0 F0 w' (L.set j (Af (.slice (some ⟨b, 0, none⟩) m cap) e size m ys)) G → K (.tuple #[]) w') : X P ρ w (.call { callee := .builtin .clear, args := #[x], argTypes := #[t] }) ty K := by
 intro a ops Q o ho _ ha hw; obtain ⟨cur, hg, hm, hc, hl, hxs, hxl⟩ := Jr (I.res _ (List.mem_of_getElem? hL))
 have hself : L.set j (Af (.slice (some ⟨b, 0, none⟩) m cap) e size m xs) = L := by
  apply List.ext_getElem?; intro i
  by_cases hij : j = i
  ·subst hij; rw [hL, List.getElem?_set_self (by rcases Nat.lt_or_ge j L.length with h | h; exact h; rw [List.getElem?_eq_none h] at hL; cases hL)]
  ·rw [List.getElem?_set_ne hij]
 by_cases h0 : m = k
 ·subst h0; refine wpl hw (v := .tuple #[]) (w' := w) ?_ ⟨_, rfl, hK w xs hxl rfl (by rw [hself]; exact I)⟩; rw [ha]; rw [Nat.sub_self] at hx; generalize Sf _ _ _ _ = A at hx; cases A <;> simp [execOp, ho, resolve, invoke, builtin, hx, Builtin.clear_, run_underlying ht]
 ·have hlt : k < m := by omega
  have hms : m * size ≤ cap * size := Nat.mul_le_mul_right _ hm; have hzc : ((Builtin.zeroCells z.cells (m - k)).toList).length = (m - k) * size := by simp [Builtin.zeroCells, hzs, hzl]
  have hkm : k * size + (m - k) * size = m * size := by rw [← Nat.add_mul]; congr 1; omega
  have hone : ∀ v ∈ (Builtin.zeroCells z.cells (m - k)).toList, v.oneCell' = true := by
   intro v hv; simp only [Builtin.zeroCells, Array.toList_map, List.mem_map] at hv; obtain ⟨i, hi, rfl⟩ := hv; have hi2 : i < (m - k) * z.cells.size := by simpa using hi
   have hpos : 0 < z.cells.size := by
    rcases Nat.eq_zero_or_pos z.cells.size with h | h
    ·rw [h] at hi2; simp at hi2
    ·exact h
   have hlt2 := Nat.mod_lt i hpos; rw [getElem!_pos z.cells _ hlt2]; refine hz1 _ ?_; have h3 : z.cells[i % z.cells.size] ∈ z.cells.toList := by simp
   have h4 : z.cells.toList = zs := by rw [hzs]
   rwa [h4] at h3
  obtain ⟨w', hr, h⟩ := I.layRow (P := P) hL (k * size) (Builtin.zeroCells z.cells (m - k)).toList (by omega) hone
  have hrs : Sf (some (⟨b, 0, none⟩ : Addr)) cap k size = some ⟨b, k * size, none⟩ := by
   unfold Sf; rw [if_neg (by omega)]; show some ((⟨b, 0, none⟩ : Addr).add _) = _; rw [B6, Nat.zero_add]
  rw [hrs] at hx; obtain ⟨d, hd⟩ : ∃ d, m - k = d + 1 := ⟨m - k - 1, by omega⟩; refine wpl hw (v := .tuple #[]) (w' := w') ?_ ⟨_, rfl, hK w' _ (by rw [Gd _ _ _ (by omega)]; exact hxl) ?_ h⟩
  ·rw [ha]; rw [hd] at hx hr; simp [execOp, ho, resolve, invoke, builtin, hx, Builtin.clear_, run_underlying ht, hz, hr]
  ·unfold splice; rw [List.append_assoc, List.take_append_of_le_length (by rw [List.length_take]; omega), List.take_take, Nat.min_self]
end
end
end Go.Proofs.YtaanjifekgfemaaGreat.K
namespace Go.Proofs.YtaanjifekgfemaaGreat.Cl
section
open Tryz Go.RowKit YtaanjifekgfemaaGreat.K YtaanjifekgfemaaGreat.W
attribute [local irreducible] Bg Ak Bb sub neg mag Da mul Dy
theorem Ic : FA 114 0 0 := fun _ _ => by simp [Instr.fieldAt, Instr.sureAddr, go_sem]
theorem Ee : FA 114 1 1 := fun _ _ => by simp [Instr.fieldAt, Instr.sureAddr, go_sem]
theorem Bv1 : CF 60 := fun _ _ => by simp [go_sem]
theorem Bj9 : CF 64 := fun _ _ => by simp [go_sem]
theorem Bv5 : CF 65 := fun _ _ => by simp [go_sem]
theorem Bvz : CF 79 := fun _ _ => by simp [go_sem]
theorem P0 (a b c d : Int) (w : World) : (Op.equalIn 10000 77 (.agg #[.int .i64 a, .int .i64 b]) (.agg #[.int .i64 c, .int .i64 d])).run Tryz.prog w = .ok (decide (a = c ∧ b = d)) w :=
 Al0 underlying77 (by kernel_rfl) (by decide) (by decide) rfl rfl underlying3 underlying3 (fun _ => sizeOf3 _) (fun _ => sizeOf3 _) (fun _ => isAgg3 _) (fun _ => isAgg3 _) a b c d w
theorem P1 : Tryz.prog.eqGuardType Tryz.prog.depth 77 = false := by kernel_rfl
theorem Ap0 (l : List Int) (hl : l.length ≤ 9223372036854775806) (A : Option Addr) (cap : Nat) (v : Int) (w0 w : World) (F0 : List Nat) (L G : List Res) (I : St w0 F0 w L G) (hr : Rds L G (.slice A l.length cap) l.length (ivs l)) :
  Calls Tryz.prog 60 #[.slice A l.length cap, .int .i64 v] w fun e w' => e = .returned (.int .i64 (Di (fun x => decide (v = x)) l)) ∧ St w0 F0 w' L G := by
 refine W.func func60 O ntmps60 O<|Wh O<|I.a O O<|Od O<|Wq O<|Wh O<|I.s O O<|I.y O (Y.lenS underlying24 O)<|I.u O O<|Od O<|Wb O<|?_; refine W.loop (γ := Nat) [(0, .slice _ _ _), (1, .int _ _), (7, .int _ _)] (fun k => [(8, .int .i64 (k : Int))]) (fun k w => (k ≤ l.length ∧ ∀ j (h : j < l.length), j < k → decide (v = l[j]) = false) ∧ St w0 F0 w (L) G) (fun k => l.length - k) (0) O ⟨O, O, O, trivial⟩ ?_ ?_ ?_
 ·exact ⟨O, trivial⟩
 ·exact ⟨⟨by omega, fun j _ h => by omega⟩, I⟩
 ·clear I; rintro k j w3 ⟨⟨hk, h0⟩, I⟩; refine Wh O<|I.v O O O (fun b9 hb9 => Od O<|Wq O<|?_); cases b9
  ·replace hb9 := dF hb9; refine Wu O O<|W.exit O<|Wh O<|I.a O O<|Od O<|We O<|⟨_, Ac.one results60 O, ?_⟩; exact ⟨Aj (Ip (fun j h => h0 j h (by omega))).symm, I⟩
  ·replace hb9 := dT hb9; refine Wt O O<|Wk O<|Wq O<|Wb O<|Wh O<|I.u O O<|I.a O O<|Od O<|Wq O<|?_; have hk1 : k < l.length := by omega
   have hget : l.getD k 0 = l[k] := by simp [hk1]
   refine Wr rfl<|I.u rfl rfl<|I.s rfl rfl<|I.u rfl rfl<|I.y rfl (Y.indexAddr underlying24 sizeOf3 rfl rfl ((hr.sl I).ne (by simp [ivs]; omega)) (by omega))<|?_; refine I.y O (Y.loadSl isAgg3 O hr (Ef hk1))<|I.Y O O O (fun b16 hb16 => Od O<|?_); cases b16
   ·replace hb16 := dF hb16; refine Wu O O<|Wk O<|Wr O<|I.j O O O (by omega)<|I.u O O<|Od O<|?_; refine ⟨k + 1, ⟨O, trivial⟩, ⟨O, O, O, trivial⟩, ⟨⟨by omega, fun j hj h => ?_⟩, I⟩, by omega⟩; rcases (show j < k ∨ j = k by omega) with h | rfl
    ·exact h0 j hj h
    ·exact decide_eq_false (fun h => hb16 (by rw [h]; exact hget.symm))
   ·replace hb16 := dT hb16; refine Wt O O<|Wh O<|I.u O O<|I.a O O<|Od O<|We O<|⟨_, Ac.one results60 O, ?_⟩; exact ⟨Aj (Io hk1 (decide_eq_true (hb16.trans hget)) h0).symm, I⟩
theorem Ax2 {α : Type} [DecidableEq α] (v : α) (l : List α) [Decidable (v ∈ l)] : decide (Di (fun x => decide (v = x)) l ≥ 0) = decide (v ∈ l) := by
 rw [P6, decide_eq_decide]; simp
theorem Mz (l : List Int) (hl : l.length ≤ 9223372036854775806) (A : Option Addr) (cap : Nat) (v : Int) (w0 w : World) (F0 : List Nat) (L G : List Res) (I : St w0 F0 w L G) (hr : Rds L G (.slice A l.length cap) l.length (ivs l)) :
  Calls Tryz.prog 32 #[.slice A l.length cap, .int .i64 v] w fun e w' => ∃ b, e = .returned (.bool b) ∧ b = decide (v ∈ l) ∧ St w0 F0 w' L G := by
 refine W.func func32 O ntmps32 O<|Wh O<|I.g O O<|Ds O O<|I.s O O<|I.u O O<|Ow O (X.ret Bv1 (Ap0 l hl _ _ _ _ _ _ _ _ I hr) O fun _ I => I.W O O O (fun b8 hb8 => I.g O O<|Od O<|We O<|⟨_, Ac.one results32 O, ?_⟩)); exact ⟨_, O, hb8.trans (Ax2 v l), I⟩
theorem Ap1 (l : List (Int × Int)) (hl : l.length ≤ 9223372036854775806) (A : Option Addr) (cap : Nat) (v : Int × Int) (w0 w : World) (F0 : List Nat) (L G : List Res) (I : St w0 F0 w L G) (hr : Rds L G (.slice A l.length cap) l.length (lcs l)) :
  Calls Tryz.prog 79 #[.slice A l.length cap, .agg #[.int .i64 v.1, .int .i64 v.2]] w fun e w' => e = .returned (.int .i64 (Di (fun x => decide (v = x)) l)) ∧ St w0 F0 w' L G := by
 refine W.func func79 O ntmps79 O<|Wh O<|Ow O (X.boxA I O fun p3 w3 I => I.a O O<|Od O<|Wq O<|Wh O<|I.s O O<|I.y O (Y.lenS underlying25 O)<|I.u O O<|Od O<|Wb O<|?_); refine W.loop (γ := Nat) [(0, .slice _ _ _), (3, .pointer _), (7, .int _ _)] (fun k => [(8, .int .i64 (k : Int))]) (fun k w => (k ≤ l.length ∧ ∀ j (h : j < l.length), j < k → decide (v = l[j]) = false) ∧ St w0 F0 w (Aa p3 [.int .i64 v.1, .int .i64 v.2] 77 :: L) G) (fun k => l.length - k) (0) O ⟨O, O, O, trivial⟩ ?_ ?_ ?_
 ·exact ⟨O, trivial⟩
 ·exact ⟨⟨by omega, fun j _ h => by omega⟩, I⟩
 ·clear I; rintro k j w3 ⟨⟨hk, h0⟩, I⟩; refine Wh O<|I.v O O O (fun b9 hb9 => Od O<|Wq O<|?_); cases b9
  ·replace hb9 := dF hb9; refine Wu O O<|W.exit O<|Wh O<|I.a O O<|Od O<|We O<|⟨_, Ac.one results79 O, ?_⟩; exact ⟨Aj (Ip (fun j h => h0 j h (by omega))).symm, (I.dr 1)⟩
  ·replace hb9 := dT hb9; refine Wt O O<|Wk O<|Wq O<|Wb O<|Wh O<|I.u O O<|I.a O O<|Od O<|Wq O<|?_; have hk1 : k < l.length := by omega
   have hget : lp l k = l[k] := by simp [lp, hk1]
   refine I.dv [] (T0 [0,1,2,3,4,5] .nil) O (by kernel_rfl) O (by kernel_rfl) fun _ I => ?_; refine I.z rfl (Y.loadA 0 isAgg77 sizeOf77 rfl rfl rfl rfl)<|I.zs rfl rfl<|I.zu rfl rfl<|I.z rfl (Y.indexAddr underlying25 sizeOf77 rfl rfl (((hr.cons _).sl I).ne (by rw [Ea]; omega)) (by omega))<|?_; refine I.z O (Y.loadSlA isAgg77 sizeOf77 O (hr.cons _) (Lg hk1) O)<|Drw.yb O O O I.ctx (Y.eq2 P1 P0 O O) (fun b16 hb16 => Dd<|?_); cases b16
   ·replace hb16 := dF hb16; refine Wu O O<|Wk O<|Wr O<|I.j O O O (by omega)<|I.u O O<|Od O<|?_; refine ⟨k + 1, ⟨O, trivial⟩, ⟨O, O, O, trivial⟩, ⟨⟨by omega, fun j hj h => ?_⟩, I⟩, by omega⟩; rcases (show j < k ∨ j = k by omega) with h | rfl
    ·exact h0 j hj h
    ·exact decide_eq_false (fun h => hb16 (by have h2 := hget.trans h.symm; exact ⟨(congrArg Prod.fst h2).symm, (congrArg Prod.snd h2).symm⟩))
   ·replace hb16 := dT hb16; refine Wt O O<|Wh O<|I.u O O<|I.a O O<|Od O<|We O<|⟨_, Ac.one results79 O, ?_⟩; exact ⟨Aj (Io hk1 (decide_eq_true (Prod.ext (hb16.1.trans (congrArg Prod.fst hget)) (hb16.2.trans (congrArg Prod.snd hget)))) h0).symm, (I.dr 1)⟩
theorem M1 (l : List (Int × Int)) (hl : l.length ≤ 9223372036854775806) (A : Option Addr) (cap : Nat) (v : Int × Int) (w0 w : World) (F0 : List Nat) (L G : List Res) (I : St w0 F0 w L G) (hr : Rds L G (.slice A l.length cap) l.length (lcs l)) :
  Calls Tryz.prog 57 #[.slice A l.length cap, .agg #[.int .i64 v.1, .int .i64 v.2]] w fun e w' => ∃ b, e = .returned (.bool b) ∧ b = decide (v ∈ l) ∧ St w0 F0 w' L G := by
 refine W.func func57 O ntmps57 O<|Wh O<|Ow O (X.boxA I O fun p3 w3 I => I.g O O<|Ds O O<|I.s O O<|I.y O (Y.loadA 0 isAgg77 sizeOf77 O O O O)<|Ow O (X.ret Bvz (Ap1 l hl _ _ v _ _ _ _ _ I (hr.cons _)) O fun _ I => I.W O O O (fun b8 hb8 => I.g O O<|Od O<|We O<|⟨_, Ac.one results57 O, ?_⟩))); exact ⟨_, O, hb8.trans (Ax2 v l), (I.dr 1)⟩
theorem Ap2 : (Tryz.prog.info? 114).map (fun i => (i.zero, i.size, i.bytes)) = some (some (.agg #[.int .i64 0, .int .i64 0]), 2, 16) := by kernel_rfl
theorem A01 (l : List (Int × Int)) : ∀ u ∈ lcs l, u.oneCell' = true := by
 intro u hu; simp only [lcs, List.mem_flatMap, List.mem_cons, List.not_mem_nil, or_false] at hu; obtain ⟨x, _, rfl | rfl⟩ := hu <;> rfl
theorem An5 (cap : Nat) (tab : List (Int × Int)) (hl : tab.length ≤ 1000000) (w0 w : World) (F0 : List Nat) (L G : List Res) (I : St w0 F0 w L G) (hr : Rds L G (.slice none tab.length cap) tab.length (lcs tab)) :
  Calls Tryz.prog 40 #[.slice none tab.length cap] w fun e w' => ∃ A' c', e = .returned (.slice A' tab.length c') ∧ St w0 F0 w' L (Af (.slice A' tab.length c') 114 2 tab.length (lcs tab) :: G) := by
 have h0 : tab = [] := by
  obtain ⟨A, c, he, _, hA⟩ := hr.sl I; injection he with he; subst he; rcases tab with _ | ⟨x, tab⟩
  ·rfl
  ·obtain ⟨ad, h, _⟩ := hA (by simp [lcs]); cases h
 subst h0; refine W.func func40 O ntmps40 O<|Wh O<|I.y O (Y.assignS O)<|Od O<|Wq O<|Wh O<|I.s O O<|I.y O (Y.nilS underlying41 O)<|Od O<|Wt O O<|Wh O<|I.y O (Y.assignS O)<|Od O<|We O<|⟨_, Ac.one results40 O, ?_⟩; exact ⟨none, 0, O, (I.nilRow _ 2).toFact⟩
theorem Aaq (a : Addr) (cap : Nat) (tab : List (Int × Int)) (hl : tab.length ≤ 1000000) (w0 w : World) (F0 : List Nat) (L G : List Res) (I : St w0 F0 w L G) (hr : Rds L G (.slice (some a) tab.length cap) tab.length (lcs tab)) :
  Calls Tryz.prog 40 #[.slice (some a) tab.length cap] w fun e w' => ∃ A' c', e = .returned (.slice A' tab.length c') ∧ St w0 F0 w' L (Af (.slice A' tab.length c') 114 2 tab.length (lcs tab) :: G) := by
 refine W.func func40 rfl ntmps40 rfl<|Wh rfl<|I.y rfl (Y.assignS rfl)<|Od rfl<|Wq rfl<|Wh rfl<|I.s rfl rfl<|I.y rfl (Y.nilS underlying41 rfl)<|Od rfl<|Wu rfl rfl<|Wk rfl<|Wh rfl<|Ow rfl (X.litRow I underlying41 sizeOf114 fun p5 w5 I => I.s rfl rfl<|Ow rfl (X.append I 0 underlying41 Ap2 rfl rfl rfl rfl rfl (hr.cons _) (Ea _) (A01 _) (by unfold maxLen; omega) (by omega)<|?_)); clear I; intro v7 w7 I; rw [Nat.zero_add, List.nil_append] at I; obtain ⟨A7, c7, rfl, -⟩ := C5 (I.res _ (List.Mem.head _)); refine I.y O (Y.assignS O)<|Od O<|We O<|⟨_, Ac.one results40 O, ?_⟩; exact ⟨A7, c7, O, I.toFact⟩
theorem Lc (A : Option Addr) (cap : Nat) (tab : List (Int × Int)) (hl : tab.length ≤ 1000000) (w0 w : World) (F0 : List Nat) (L G : List Res) (I : St w0 F0 w L G) (hr : Rds L G (.slice A tab.length cap) tab.length (lcs tab)) :
  Calls Tryz.prog 40 #[.slice A tab.length cap] w fun e w' => ∃ A' c', e = .returned (.slice A' tab.length c') ∧ St w0 F0 w' L (Af (.slice A' tab.length c') 114 2 tab.length (lcs tab) :: G) := by
 cases A with
 | none => exact An5 cap tab hl w0 w F0 L G I hr
 | some a => exact Aaq a cap tab hl w0 w F0 L G I hr
theorem Br : FA 57 0 0 := fun _ _ => by simp [Instr.fieldAt, Instr.sureAddr, go_sem]
theorem Hx : FA 57 1 2 := fun _ _ => by simp [Instr.fieldAt, Instr.sureAddr, go_sem]
theorem I7 : FA 57 6 7 := fun _ _ => by simp [Instr.fieldAt, Instr.sureAddr, go_sem]
theorem F5 : FA 57 7 8 := fun _ _ => by simp [Instr.fieldAt, Instr.sureAddr, go_sem]
theorem Kp : FA 57 8 10 := fun _ _ => by simp [Instr.fieldAt, Instr.sureAddr, go_sem]
theorem Br7 : CF 35 := fun _ _ => by simp [go_sem]
theorem Bu7 : CF 37 := fun _ _ => by simp [go_sem]
theorem A9z : CF 40 := fun _ _ => by simp [go_sem]
theorem Bj4 : CF 41 := fun _ _ => by simp [go_sem]
theorem Ao8 (x : Int × Int) (hx : -4611686018427387904 ≤ x.1 - x.2 ∧ x.1 - x.2 ≤ 4611686018427387904) (w0 w : World) (F0 : List Nat) (L G : List Res) (I : St w0 F0 w L G) :
  Calls Tryz.prog 66 #[.agg #[.int .i64 x.1, .int .i64 x.2]] w fun e w' => e = .returned (.bool (decide ((x.1 - x.2).tmod 86400 ≠ 0))) ∧ St w0 F0 w' L G := by
 refine W.func func66 O ntmps66 O<|Wh O<|Ow O (X.boxA I O fun p1 w1 I => I.g O O<|Ds O O<|I.f Ic O O<|I.l 0 O O O O<|I.f Ee O O<|I.l 0 O O O O<|I.y O (Y.subI O O (by omega))<|I.y O (Y.rem O O (by decide))<|?_); refine I.yb O (Y.neq O O) (fun b9 hb9 => I.g O O<|Od O<|We O<|⟨_, Ac.one results66 O, ?_⟩); exact ⟨congrArg (fun b => Ending.returned (.bool b)) hb9, (I.dr 1)⟩
theorem Bv6 : CF 66 := fun _ _ => by simp [go_sem]
theorem Bmq {l : List (Int × Int)} (h : Km l) {x : Int × Int} (hx : x ∈ l) : -4611686018427387904 ≤ x.1 - x.2 ∧ x.1 - x.2 ≤ 4611686018427387904 := by
 obtain ⟨k, hk, rfl⟩ := List.getElem_of_mem hx; have h2 := h.2 k hk; have e : lp l k = l[k] := by simp [lp, hk]
 unfold H1 at h2; rw [e] at h2; omega
theorem Rg (tab : List (Int × Int)) (A : Option Addr) (cap : Nat) (hl : tab.length ≤ 1000000) (hwf : ∀ x ∈ tab, Bz x.1 ∧ Bz x.2) (w0 w : World) (F0 : List Nat) (L G : List Res) (I : St w0 F0 w L G) (hr : Rds L G (.slice A tab.length cap) tab.length (lcs tab)) :
  Calls Tryz.prog 41 #[.slice A tab.length cap] w fun e w' => ∃ b, e = .returned (.bool b) ∧ b = decide (Fo tab) ∧ St w0 F0 w' L G := by
 refine W.func func41 O ntmps41 O<|Wh O<|I.g O O<|Ds O O<|I.s O O<|Ow O (X.retB Bj9 (Al7 _ tab _ _ _ _ _ I hr (by omega) hwf) O fun b4 w4 hb4 I => I.b O O<|?_); cases b4
 ·replace hb4 := dF hb4; refine On O<|On O<|On O<|I.k O O O<|I.g O O<|Od O<|We O<|⟨_, Ac.one results41 O, ?_⟩; exact ⟨_, O, (decide_eq_false (fun h => hb4 h.1)).symm, I⟩
 ·replace hb4 := dT hb4; refine I.s O O<|Ow O (X.retB Bv5 (My Aq Cc (fun x : Int × Int => decide ((x.1 - x.2).tmod 86400 ≠ 0)) tab (by omega) _ _ 66 [] [] Bv6 _ _ _ _ _ I hr (fun x hx w I => Ao8 x (Bmq hb4 hx) _ _ _ _ _ I)) O fun b7 w7 hb7 I => ?_); cases b7
  ·replace hb7 := dF hb7; refine I.q O O<|I.k O O O<|I.g O O<|Od O<|We O<|⟨_, Ac.one results41 O, ?_⟩; exact ⟨_, O, (decide_eq_true ⟨hb4, fun x hx => Decidable.not_not.1 (fun h => hb7 ⟨x, hx, decide_eq_true h⟩)⟩).symm, I⟩
  ·replace hb7 := dT hb7; refine I.q O O<|I.k O O O<|I.g O O<|Od O<|We O<|⟨_, Ac.one results41 O, ?_⟩; exact ⟨_, O, (decide_eq_false (fun h => by obtain ⟨x, hx, hp⟩ := hb7; exact of_decide_eq_true hp (h.2 x hx))).symm, I⟩
set_option maxHeartbeats 1000000 in
theorem Sj (p : Par) (s : Stt) (A : Option Addr) (cap : Nat) (hl : s.tab.length ≤ 1000000) (hwf : ∀ x ∈ s.tab, Bz x.1 ∧ Bz x.2) (w0 w : World) (F0 : List Nat) (L G : List Res) (I : St w0 F0 w L G) (hr : Rds [] G (.slice A s.tab.length cap) s.tab.length (lcs s.tab)) :
  Calls Tryz.prog 12 #[.agg #[.int .i64 p.N, .int .i64 p.F, .int .i64 p.D, .int .i64 p.Beat, .int .i64 p.Rho, .int .i64 p.Delay, .int .i64 p.Jitter, .int .i64 p.Eps, .int .i64 p.Mu, .int .i64 p.Hold, .int .i64 p.Pulse, .int .i64 p.Second], .agg #[.int .i64 s.lo, .int .i64 s.hi, .int .i64 s.time, .bool s.set, .int .i64 s.held, .int .i64 s.hops, .bool s.good, .slice A s.tab.length cap, .int .i64 s.st, .int .i64 s.sn, .int .i64 s.life]] w fun e w' => ∃ A' c', e = .returned (.agg #[.int .i64 (Bf p s).lo, .int .i64 (Bf p s).hi, .int .i64 (Bf p s).time, .bool s.set, .int .i64 (Bf p s).held, .int .i64 (Bf p s).hops, .bool (Bf p s).good, .slice A' (Bf p s).tab.length c', .int .i64 (Bf p s).st, .int .i64 (Bf p s).sn, .int .i64 (Bf p s).life]) ∧ St w0 F0 w' L (Af (.slice A' (Bf p s).tab.length c') 114 2 (Bf p s).tab.length (lcs (Bf p s).tab) :: G) := by
 refine W.func func12 O ntmps12 O<|Wh O<|Ow O (X.boxA I O fun p2 w2 I => Ow O (X.boxA I O fun p3 w3 I => Ow O (X.allocA I zeroValue57 fun p4 w4 I => Ds O O<|I.f Br O O<|I.f Fm O O<|I.l 1 O O O O<|I.f Br O O<|I.f Fb O O<|I.l 1 O O O O<|Ow O (X.ret Br7 (A1q _ _ _ _ _ _ _ I ) O fun _ I => I.f Br O O<|Ow O (X.storeS I 1 sizeOf53 O O O O O (lZ O) O O fun _ I => Od O<|Wq O<|?_))))); refine W.cut [(2, .pointer _), (3, .pointer _), (4, .pointer _)] (fun _ : Unit => []) (fun _ w => St w0 F0 w (Aa p4 [.int .i64 0, .int .i64 0, .int .i64 0, .bool false, .int .i64 0, .int .i64 0, .bool false, .slice none 0 0, .int .i64 0, .int .i64 0, .int .i64 0] 57 :: Aa p3 [.int .i64 (Bf p s).lo, .int .i64 (Bf p s).hi, .int .i64 s.time, .bool s.set, .int .i64 s.held, .int .i64 s.hops, .bool (Bf p s).good, .slice A s.tab.length cap, .int .i64 s.st, .int .i64 s.sn, .int .i64 s.life] 57 :: Aa p2 [.int .i64 p.N, .int .i64 p.F, .int .i64 p.D, .int .i64 p.Beat, .int .i64 p.Rho, .int .i64 p.Delay, .int .i64 p.Jitter, .int .i64 p.Eps, .int .i64 p.Mu, .int .i64 p.Hold, .int .i64 p.Pulse, .int .i64 p.Second] 23 :: L) G) ⟨O, O, O, trivial⟩ ?_ ?_
 rotate_left
 ·clear I; rintro _ j w15 I; refine Wq O ?_; refine W.cut [(3, .pointer _), (4, .pointer _)] (fun _ : Unit => []) (fun _ w => St w0 F0 w (Aa p4 [.int .i64 0, .int .i64 0, .int .i64 0, .bool false, .int .i64 0, .int .i64 0, .bool false, .slice none 0 0, .int .i64 0, .int .i64 0, .int .i64 0] 57 :: Aa p3 [.int .i64 (Bf p s).lo, .int .i64 (Bf p s).hi, .int .i64 (Bf p s).time, .bool s.set, .int .i64 (Bf p s).held, .int .i64 (Bf p s).hops, .bool (Bf p s).good, .slice A s.tab.length cap, .int .i64 s.st, .int .i64 s.sn, .int .i64 s.life] 57 :: Aa p2 [.int .i64 p.N, .int .i64 p.F, .int .i64 p.D, .int .i64 p.Beat, .int .i64 p.Rho, .int .i64 p.Delay, .int .i64 p.Jitter, .int .i64 p.Eps, .int .i64 p.Mu, .int .i64 p.Hold, .int .i64 p.Pulse, .int .i64 p.Second] 23 :: L) G) ⟨O, O, trivial⟩ ?_ ?_
  rotate_left
  ·clear I; rintro _ j w4 I; refine Wh O<|I.f Kp O O<|I.l 1 O O O O<|Ow O (X.ret Nv (C1 _ _ _ _ _ _ _ _ I ) O fun _ I => I.f Kp O O<|Ow O (X.storeV I 1 (.int _ _) sizeOf3 O O O O (lZ O) O O fun _ I => Ds O O<|I.f I7 O O<|I.y O (Y.load 1 isAgg41 O O O)<|Oc O A9z O ?_)); refine Ab (Lc _ _ s.tab hl _ _ _ _ _ I hr.any) O ?_; clear I; rintro e w41 ⟨A41, c41, rfl, I⟩; refine ⟨_, O, ?_⟩; refine I.f I7 O O<|Ow O (X.storeV I 1 (.slice _ _ _) sizeOf41 O O O O (lZ O) O O fun _ I => Od O<|Wq O<|?_); refine W.cut [(3, .pointer _), (4, .pointer _)] (fun _ : Option Addr × Nat => []) (fun x w => St w0 F0 w (Aa p4 [.int .i64 0, .int .i64 0, .int .i64 0, .bool false, .int .i64 0, .int .i64 0, .bool false, .slice none 0 0, .int .i64 0, .int .i64 0, .int .i64 0] 57 :: Aa p3 [.int .i64 (Bf p s).lo, .int .i64 (Bf p s).hi, .int .i64 (Bf p s).time, .bool s.set, .int .i64 (Bf p s).held, .int .i64 (Bf p s).hops, .bool (Bf p s).good, .slice x.1 (Bf p s).tab.length x.2, .int .i64 s.st, .int .i64 s.sn, .int .i64 (Bf p s).life] 57 :: Aa p2 [.int .i64 p.N, .int .i64 p.F, .int .i64 p.D, .int .i64 p.Beat, .int .i64 p.Rho, .int .i64 p.Delay, .int .i64 p.Jitter, .int .i64 p.Eps, .int .i64 p.Mu, .int .i64 p.Hold, .int .i64 p.Pulse, .int .i64 p.Second] 23 :: L) (Af (.slice x.1 (Bf p s).tab.length x.2) 114 2 (Bf p s).tab.length (lcs (Bf p s).tab) :: G)) ⟨O, O, trivial⟩ ?_ ?_
   rotate_left
   ·clear I; rintro ⟨A9, c9⟩ j w9 I; refine Wq O ?_; refine W.cut [(3, .pointer _), (4, .pointer _)] (fun _ : Unit => []) (fun _ w => St w0 F0 w (Aa p4 [.int .i64 0, .int .i64 0, .int .i64 0, .bool false, .int .i64 0, .int .i64 0, .bool false, .slice none 0 0, .int .i64 0, .int .i64 0, .int .i64 0] 57 :: Aa p3 [.int .i64 (Bf p s).lo, .int .i64 (Bf p s).hi, .int .i64 (Bf p s).time, .bool s.set, .int .i64 (Bf p s).held, .int .i64 (Bf p s).hops, .bool (Bf p s).good, .slice A9 (Bf p s).tab.length c9, .int .i64 (Bf p s).st, .int .i64 (Bf p s).sn, .int .i64 (Bf p s).life] 57 :: Aa p2 [.int .i64 p.N, .int .i64 p.F, .int .i64 p.D, .int .i64 p.Beat, .int .i64 p.Rho, .int .i64 p.Delay, .int .i64 p.Jitter, .int .i64 p.Eps, .int .i64 p.Mu, .int .i64 p.Hold, .int .i64 p.Pulse, .int .i64 p.Second] 23 :: L) (Af (.slice A9 (Bf p s).tab.length c9) 114 2 (Bf p s).tab.length (lcs (Bf p s).tab) :: G)) ⟨O, O, trivial⟩ ?_ ?_
    rotate_left
    ·clear I; rintro _ j w10 I; refine Wh O<|I.y O (Y.loadA 1 isAgg57 sizeOf57 O O O O)<|Ow O (X.storeS I 0 sizeOf57 O O O O O (lZ O) O O fun _ I => Od O<|We O<|⟨_, Ac.cell results12 O (Bd isAgg57 sizeOf57 0 I O O), ?_⟩); exact ⟨_, _, O, (I.dr 3)⟩
    refine Wh O<|I.f F5 O O<|I.y O (Y.loadA 1 isAgg55 sizeOf55 O O O O)<|Ow O (X.retB Bj5 (Ot _ _ _ _ _ _ _ I ) O fun b50 w50 hb50 I => ?_); cases b50
    ·replace hb50 := dF hb50; refine I.q O O<|Od O<|Wt O O<|Wr O<|I.f Hx O O<|I.l 1 O O O O<|I.y O (Qq O)<|I.f F5 O O<|Ow O (X.storeS I 1 sizeOf55 O O O O O (lZ O) O O fun _ I => Od O<|?_); have e1 : (Bf p s).st = Ak s.time := if_neg hb50; have e2 : (Bf p s).sn = 0 := if_neg hb50; exact ⟨(), trivial, ⟨O, O, trivial⟩, by rw [e1, e2]; exact I⟩
    ·replace hb50 := dT hb50; refine I.q O O<|Od O<|Wu O O<|Wk O<|?_; have e1 : (Bf p s).st = s.st := if_pos hb50; have e2 : (Bf p s).sn = s.sn := if_pos hb50; exact ⟨(), trivial, ⟨O, O, trivial⟩, by rw [e1, e2]; exact I⟩
   refine Wh O<|I.f I7 O O<|I.y O (Y.load 1 isAgg41 O O O)<|Ow O (X.retB Bj4 (Rg s.tab _ _ hl hwf _ _ _ _ _ I (Rds.rowG 0 O)) O fun b45 w45 hb45 I => ?_); cases b45
   ·replace hb45 := dF hb45; refine I.q O O<|Od O<|Wt O O<|Wr O<|I.f I7 O O<|Ow O (X.storeV I 1 (.slice _ _ _) sizeOf41 O O O O (lZ O) O O fun _ I => Od O<|?_); have e : (Bf p s).tab = [] := if_neg hb45; refine ⟨(none, 0), trivial, ⟨O, O, trivial⟩, ?_⟩; rw [e]; exact (St.forget I).learn (Af (.slice none 0 0) 114 2 0 []) (Za _ _ _) O
   ·replace hb45 := dT hb45; refine I.q O O<|Od O<|Wu O O<|Wk O<|?_; have e : (Bf p s).tab = s.tab := if_pos hb45; refine ⟨(A41, c41), trivial, ⟨O, O, trivial⟩, ?_⟩; rw [e]; exact I
  refine I.dv [14,15,16,17,18] (T0 [0,1,3,4,6,7,8,9] (.alt 2 (.op 13 0 (.alt 5 (T1 [10,11,12,14,15,16,17,18] .nil) (T1 [10,5,11,12,14,15,16,17,18] .nil))) (T1 [10,2] (.op 13 0 (T1 [5,11,12,14,15,16,17,18] .nil))))) O (by kernel_rfl) O (by kernel_rfl) fun _ I => ?_; refine I.zf Hx O O<|I.zl 1 O O O O<|I.zf Bt O O<|I.zl 1 O O O O<|I.zf B3 O O<|I.zl 1 O O O O<|I.zf I4 O O<|I.zl 2 O O O O<|?_; refine Drw.alts (Alts.more ?_ (Alts.one ?_))
  ·refine One.ww O (X.ret Gt (Bu _ _ _ _ _ _ I ) O fun w21 I => ⟨I.ctx, I.zf Hx O O<|?_⟩); refine Drw.alts (Alts.more ?_ (Alts.one ?_))
   ·refine One.ww O (X.ret Nv (C1 _ _ _ _ _ _ _ _ I ) O fun w24 I => ⟨I.ctx, Dw O (Xl I (by rfl) (by rfl) (by rfl) [.int _ _, .int _ _] (by rfl) (by rfl) fun p29 w29 I => ⟨(I.cx 1), ?_⟩)⟩); refine Dw O (X.ret Dr (Ap [p.D, 1] _ _ (by simp) _ _ _ _ _ I (Rds.ofCells 0 O 2 2)) O fun w30 I => ⟨(I.cx 1), ?_⟩); refine Dw O (X.ret Nv (C1 _ _ _ _ _ _ _ _ I ) O fun w31 I => ⟨(I.cx 1), Drw.z O O O O (X.storeV I 2 (.int _ _) sizeOf3 O O O O (lZ O) O O fun w4_14 I => Drw.zy O O O O I.ctx (Y.fieldAddr Bt O)<|Drw.z O O O O (X.storeV I 2 (.int _ _) sizeOf3 O O O O (lZ O) O O fun w4_16 I => Drw.zy O O O O I.ctx (Y.fieldAddr B3 O)<|Drw.z O O O O (X.storeV I 2 (.int _ _) sizeOf3 O O O O (lZ O) O O fun w4_18 I => Dd<|?_)))⟩); exact ⟨(), trivial, ⟨O, O, trivial⟩, (I.dr 1)⟩
   ·refine One.ww O (Xl I (by rfl) (by rfl) (by rfl) [.int _ _, .int _ _] (by rfl) (by rfl) fun p29 w29 I => ⟨(I.cx 1), ?_⟩); refine Dw O (X.ret Nv (C1 _ _ _ _ _ _ _ _ I ) O fun w24 I => ⟨(I.cx 1), Dw O (X.ret Dr (Ap [p.D, 1] _ _ (by simp) _ _ _ _ _ I (Rds.ofCells 0 O 2 2)) O fun w30 I => ⟨(I.cx 1), ?_⟩)⟩); refine Dw O (X.ret Nv (C1 _ _ _ _ _ _ _ _ I ) O fun w31 I => ⟨(I.cx 1), Drw.z O O O O (X.storeV I 2 (.int _ _) sizeOf3 O O O O (lZ O) O O fun w4_14 I => Drw.zy O O O O I.ctx (Y.fieldAddr Bt O)<|Drw.z O O O O (X.storeV I 2 (.int _ _) sizeOf3 O O O O (lZ O) O O fun w4_16 I => Drw.zy O O O O I.ctx (Y.fieldAddr B3 O)<|Drw.z O O O O (X.storeV I 2 (.int _ _) sizeOf3 O O O O (lZ O) O O fun w4_18 I => Dd<|?_)))⟩); exact ⟨(), trivial, ⟨O, O, trivial⟩, (I.dr 1)⟩
  ·refine One.ww O (Xl I (by rfl) (by rfl) (by rfl) [.int _ _, .int _ _] (by rfl) (by rfl) fun p29 w29 I => ⟨(I.cx 1), ?_⟩); refine Dw O (X.ret Gt (Bu _ _ _ _ _ _ I ) O fun w21 I => ⟨(I.cx 1), Dq O (I.cx 1) (Y.fieldAddr Hx O)<|Dw O (X.ret Nv (C1 _ _ _ _ _ _ _ _ I ) O fun w24 I => ⟨(I.cx 1), Dw O (X.ret Dr (Ap [p.D, 1] _ _ (by simp) _ _ _ _ _ I (Rds.ofCells 0 O 2 2)) O fun w30 I => ⟨(I.cx 1), ?_⟩)⟩)⟩); refine Dw O (X.ret Nv (C1 _ _ _ _ _ _ _ _ I ) O fun w31 I => ⟨(I.cx 1), Drw.z O O O O (X.storeV I 2 (.int _ _) sizeOf3 O O O O (lZ O) O O fun w4_14 I => Drw.zy O O O O I.ctx (Y.fieldAddr Bt O)<|Drw.z O O O O (X.storeV I 2 (.int _ _) sizeOf3 O O O O (lZ O) O O fun w4_16 I => Drw.zy O O O O I.ctx (Y.fieldAddr B3 O)<|Drw.z O O O O (X.storeV I 2 (.int _ _) sizeOf3 O O O O (lZ O) O O fun w4_18 I => Dd<|?_)))⟩); exact ⟨(), trivial, ⟨O, O, trivial⟩, (I.dr 1)⟩
 refine Wh O<|I.f Br O O<|I.y O (Y.loadA 1 isAgg53 sizeOf53 O O O O)<|Ow O (X.retB A9x (Ld _ _ _ _ _ _ _ I ) O fun b15 w15 hb15 I => Od O<|?_); cases b15
 ·replace hb15 := dF hb15; refine Wu O O<|Wk O<|?_; have e : ¬ Ak s.hi < Ak s.lo := hb15; have e1 : (Bf p s).lo = Ak s.lo := if_neg e; have e2 : (Bf p s).hi = Ak s.hi := if_neg e; have e3 : (Bf p s).good = s.good := if_neg e; exact ⟨(), trivial, ⟨O, O, O, trivial⟩, by rw [e1, e2, e3]; exact I⟩
 ·replace hb15 := dT hb15; refine Wt O O<|Wr O<|Ow O (X.ret Bu7 (A88  _ _ _ _ _ I ) O fun _ I => I.f Br O O<|Ow O (X.storeS I 1 sizeOf53 O O O O O (lZ O) O O fun _ I => I.f Bl O O<|Ow O (X.storeV I 1 (.bool _) sizeOf4 O O O O (lZ O) O O fun _ I => Od O<|?_))); have e : Ak s.hi < Ak s.lo := hb15; have e1 : (Bf p s).lo = -2305843009213693952 := if_pos e; have e2 : (Bf p s).hi = 2305843009213693952 := if_pos e; have e3 : (Bf p s).good = false := if_pos e; exact ⟨(), trivial, ⟨O, O, O, trivial⟩, by rw [e1, e2, e3]; exact I⟩
end
end Go.Proofs.YtaanjifekgfemaaGreat.Cl
section
namespace Go.Proofs.YtaanjifekgfemaaGreat.Cl
open Tryz
open Go.RowKit Go.Proofs.YtaanjifekgfemaaGreat.K Go.Proofs.YtaanjifekgfemaaGreat.W
def E4 (p : Par) : List Value := [.int .i64 p.N, .int .i64 p.F, .int .i64 p.D, .int .i64 p.Beat, .int .i64 p.Rho, .int .i64 p.Delay, .int .i64 p.Jitter, .int .i64 p.Eps, .int .i64 p.Mu, .int .i64 p.Hold, .int .i64 p.Pulse, .int .i64 p.Second]
def Fk (s : Stt) (A : Option Addr) (cap : Nat) : List Value := [.int .i64 s.lo, .int .i64 s.hi, .int .i64 s.time, .bool s.set, .int .i64 s.held, .int .i64 s.hops, .bool s.good, .slice A s.tab.length cap, .int .i64 s.st, .int .i64 s.sn, .int .i64 s.life]
def frC (p : Par) (s : Stt) (A : Option Addr) (cap : Nat) (rest : List Value) : List Value := E4 p ++ (Fk s A cap ++ rest)
def frR (b : Nat) (T : TypeId) (p : Par) (s : Stt) (A : Option Addr) (cap : Nat) (rest : List Value) : Res := Aa b (frC p s A cap rest) T
def L0 (p : Par) (s : Stt) : Int := Bb [s.hi, far p s.held]
def Stt.stamped (s : Stt) (x : Sta) : Stt := { s with st := x.t, sn := x.n }
def Stt.sta (s : Stt) : Sta := ⟨s.st, s.sn⟩
def Bm (s : Stt) : Stt := s.stamped (s.sta.tick s.time)
def Ai4 (p : Par) (s : Stt) (x : Sta) : Stt := s.stamped (s.sta.hear s.time x (L0 p s))
def Aix (p : Par) (s : Stt) (ticks : Int) (nx : Stt) : Prop := Bq p s = 0 ∨ far p nx.held < mag (sub (Sp.mid ⟨nx.lo, nx.hi⟩) (Bb [s.time, ticks]))
instance (p : Par) (s : Stt) (ticks : Int) (nx : Stt) : Decidable (Aix p s ticks nx) := by unfold Aix; infer_instance
def I1 (p : Par) (s : Stt) (ticks : Int) (nx : Stt) : Int := So p s.time s.set ticks (Sp.mid ⟨nx.lo, nx.hi⟩) (decide (Aix p s ticks nx))
def Pp (p : Par) (s : Stt) (ticks : Int) (nx : Stt) : Stt := { Bf p nx with time := I1 p s ticks nx, set := true, st := s.st, sn := s.sn, life := Bg s.life 0 2305843009213693952 }
def Av0 (p : Par) (s : Stt) (ticks : Int) (nx : Stt) : Prop := s.sta.mended (L0 p (Pp p s ticks nx)) ∨ I1 p s ticks nx < s.time
instance (p : Par) (s : Stt) (ticks : Int) (nx : Stt) : Decidable (Av0 p s ticks nx) := by unfold Av0; infer_instance
def Mt (p : Par) (s : Stt) (ticks : Int) (nx : Stt) : Stt := (Pp p s ticks nx).stamped ((s.sta.mend (I1 p s ticks nx) (L0 p (Pp p s ticks nx))).tick (I1 p s ticks nx))
def B1 (p : Par) (s : Stt) (ticks : Int) (nx : Stt) : Stt :=
  if Av0 p s ticks nx then { Mt p s ticks nx with life := Bg (Bb [Bg s.life 0 2305843009213693952, 1]) 0 2305843009213693952 } else Mt p s ticks nx
structure Stt.Fit (p : Par) (s : Stt) : Prop where
  span : -2305843009213693952 ≤ s.lo ∧ s.lo ≤ s.hi ∧ s.hi ≤ 2305843009213693952
  time : -2305843009213693952 ≤ s.time ∧ s.time ≤ 2305843009213693952
  held : 0 ≤ s.held ∧ s.held ≤ 1073741824
  hops : 0 ≤ s.hops ∧ s.hops ≤ p.D + 1
  tab : Fo s.tab
  right : s.sta.Right
  life : 0 ≤ s.life ∧ s.life ≤ 2305843009213693952
theorem Ek : Fo [] := by decide
theorem Lm (t n : Int) : Sta.Right ⟨t, n⟩ ↔ -2305843009213693952 ≤ t ∧ t ≤ 2305843009213693952 ∧ 0 ≤ n ∧ n ≤ 1073741824 := Iff.rfl
theorem Ho {a b : Int} (ha : -1000000000000000000 ≤ a ∧ a ≤ 1000000000000000000) (hb : -1000000000000000000 ≤ b ∧ b ≤ 1000000000000000000) : Bb [a, b] = a + b := by
 simp only [Bb, List.foldl_cons, List.foldl_nil]; rw [Ay (x := a) (by omega), Ay (x := b) (by omega), Ay (x := 0 + a) (by omega), Ay (x := 0 + a + b) (by omega)]; omega
theorem Adx {s : Sta} (h : s.Right) : s.next.Right := by
 have h2 := (Lm s.t s.n).1 h; unfold Sta.next; split
 ·exact ⟨(Ga _).1, (Ga _).2, (by decide : (0 : Int) ≤ 0), (by decide : (0 : Int) ≤ 1073741824)⟩
 ·rename_i h3; refine ⟨(Bw _).1, (Bw _).2, ?_, ?_⟩ <;> simp only <;> omega
theorem H3 {s : Sta} (h : s.Right) (now : Int) : (s.tick now).Right := by
 unfold Sta.tick; split
 ·exact ⟨(Bw _).1, (Bw _).2, (by decide : (0 : Int) ≤ 0), (by decide : (0 : Int) ≤ 1073741824)⟩
 ·exact Adx h
theorem J8 (s : Sta) (now most : Int) : (s.mend now most).Right := by
 unfold Sta.mend; split
 ·exact ⟨(Bw _).1, (Bw _).2, (by decide : (0 : Int) ≤ 0), (by decide : (0 : Int) ≤ 1073741824)⟩
 ·rename_i h; exact (Decidable.not_not.1 h).1
theorem Yq {s : Sta} (h : -2305843009213693952 ≤ s.t ∧ s.t ≤ 2305843009213693952 ∧ -1 ≤ s.n ∧ s.n ≤ 1073741824) : s.next.Right := by
 unfold Sta.next; split
 ·exact ⟨(Ga _).1, (Ga _).2, (by decide : (0 : Int) ≤ 0), (by decide : (0 : Int) ≤ 1073741824)⟩
 ·rename_i h3; refine ⟨(Bw _).1, (Bw _).2, ?_, ?_⟩ <;> simp only <;> omega
theorem Ac5 {c : Sta} (h : c.Right) (now : Int) (s : Sta) (most : Int) : (c.hear now s most).Right := by
 unfold Sta.hear; split
 ·exact H3 h now
 ·rename_i h2
  have hs : s.Right := by
   rcases Decidable.em s.Right with h3 | h3
   ·exact h3
   ·exact absurd (.inl h3) h2
  have h3 := (Lm s.t s.n).1 hs; have h4 := (Lm c.t c.n).1 h; have h5 := Bw now; refine Yq ?_; have hl : ∀ a b : Sta, (a.later b = a ∨ a.later b = b) := fun a b => by unfold Sta.later; split <;> simp
  rcases hl (c.later s) ⟨Ak now, -1⟩ with e | e <;> rw [e]
  ·rcases hl c s with e | e <;> rw [e] <;> omega
  ·exact ⟨h5.1, h5.2, (by decide : (-1 : Int) ≤ -1), (by decide : (-1 : Int) ≤ 1073741824)⟩
theorem Sk {p : Par} (hp : p.Ok) (s : Stt) : (Bf p s).Fit p := by
 have hD := hp.D; have e : Bb [p.D, 1] = p.D + 1 := Ho (by omega) (by omega); have h1 := Bw s.lo; have h2 := Bw s.hi; refine ⟨?_, Bw _, Hs _ _ _ (by decide), ?_, ?_, ?_, Hs _ _ _ (by decide)⟩
 ·simp only [Bf]; split
  ·decide
  ·omega
 ·have := Hs s.hops 0 (Bb [p.D, 1]) (by omega); simp only [Bf]; omega
 ·simp only [Bf]; split
  ·assumption
  ·exact Ek
 ·simp only [Bf, Stt.sta]; split
  ·assumption
  ·exact ⟨(Bw _).1, (Bw _).2, (by decide : (0 : Int) ≤ 0), (by decide : (0 : Int) ≤ 1073741824)⟩
theorem Beq (p : Par) (time : Int) (set : Bool) (ticks to : Int) (jump : Bool) : -2305843009213693952 ≤ So p time set ticks to jump ∧ So p time set ticks to jump ≤ 2305843009213693952 := by
 unfold So; split
 ·exact Bw _
 ·exact Ga _
theorem A08 {p : Par} (hp : p.Ok) {s : Stt} (hs : s.Fit p) (ticks : Int) (nx : Stt) : (Pp p s ticks nx).Fit p := by
 have h := Sk hp nx; exact ⟨h.span, Beq _ _ _ _ _ _, h.held, h.hops, h.tab, hs.right, Hs _ _ _ (by decide)⟩
theorem Stt.Fit.stamped {p : Par} {s : Stt} (h : s.Fit p) {x : Sta} (hx : x.Right) : (s.stamped x).Fit p := ⟨h.span, h.time, h.held, h.hops, h.tab, hx, h.life⟩
theorem Ml {p : Par} {s : Stt} (h : s.Fit p) : (Bm s).Fit p := h.stamped (H3 h.right _)
theorem Ao9 {p : Par} {s : Stt} (h : s.Fit p) (x : Sta) : (Ai4 p s x).Fit p := h.stamped (Ac5 h.right _ _ _)
theorem Am9 {p : Par} (hp : p.Ok) {s : Stt} (hs : s.Fit p) (ticks : Int) (nx : Stt) : (Mt p s ticks nx).Fit p := (A08 hp hs ticks nx).stamped (H3 (J8 _ _ _) _)
theorem Uu {p : Par} (hp : p.Ok) {s : Stt} (hs : s.Fit p) (ticks : Int) (nx : Stt) : (B1 p s ticks nx).Fit p := by
 have h := Am9 hp hs ticks nx; unfold B1; split
 ·exact ⟨h.span, h.time, h.held, h.hops, h.tab, h.right, Hs _ _ _ (by decide)⟩
 ·exact h
theorem Mv {x lo hi : Int} (h : lo ≤ x ∧ x ≤ hi) : Bg x lo hi = x := by unfold Bg; rw [if_neg (by omega), if_neg (by omega)]
end Go.Proofs.YtaanjifekgfemaaGreat.Cl
namespace Go.Proofs.YtaanjifekgfemaaGreat.Cl
open Tryz
theorem Bl6 (c : Sta) (now most : Int) : (c.mend now most).n ≤ 9223372036854775806 := by
 have h : (c.mend now most).n ≤ 1073741824 := (J8 c now most).2.2.2; omega
theorem Ln (p : Par) (s : Stt) (ticks : Int) (nx : Stt) : (B1 p s ticks nx).tab = (Bf p nx).tab := by
 unfold B1; split <;> rfl
end Go.Proofs.YtaanjifekgfemaaGreat.Cl
end
namespace Go.Proofs.YtaanjifekgfemaaGreat.Cl
section
open Tryz Go.RowKit YtaanjifekgfemaaGreat.K YtaanjifekgfemaaGreat.W
attribute [local irreducible] Bg Ak Bb sub neg mag Da mul Dy
theorem Ai1 {x0_0 x0_1 : Int} (w : World) : (Instr.field 244 (.agg #[Value.int .i64 x0_0, Value.int .i64 x0_1]) 0).run Tryz.prog w = .ok (.agg #[Value.int .i64 x0_0, Value.int .i64 x0_1]) w := by
 simp [Instr.field, go_sem] <;> rfl
theorem Ej : FA 60 0 0 := fun _ _ => by simp [Instr.fieldAt, Instr.sureAddr, go_sem]
theorem Be : FA 60 1 12 := fun _ _ => by simp [Instr.fieldAt, Instr.sureAddr, go_sem]
theorem Bj1 : CF 12 := fun _ _ => by simp [go_sem]
theorem Bj3 : CF 21 := fun _ _ => by simp [go_sem]
theorem Bu9 : CF 47 := fun _ _ => by simp [go_sem]
theorem Buq : CF 48 := fun _ _ => by simp [go_sem]
theorem Br9 : CF 50 := fun _ _ => by simp [go_sem]
theorem Bo3 : CF 131 := fun _ _ => by simp [go_sem]
theorem Bh0 : CF 132 := fun _ _ => by simp [go_sem]
theorem Bh1 : CF 133 := fun _ _ => by simp [go_sem]
theorem Avq : CF 134 := fun _ _ => by simp [go_sem]
theorem Ah4 : CF 135 := fun _ _ => by simp [go_sem]
theorem Avz : CF 186 := fun _ _ => by simp [go_sem]
theorem Rh (b : Nat) (T : TypeId) (p : Par) (s : Stt) (A : Option Addr) (cap : Nat) (rest : List Value)  (w0 w : World) (F0 : List Nat) (L G : List Res) (I : St w0 F0 w (frR b T p s A cap rest :: L) G)  :
  Calls Tryz.prog 21 #[.pointer (some ⟨b, 0, none⟩)] w fun e w' => e = .returned (.int .i64 (Bq p s)) ∧ St w0 F0 w' (frR b T p (s) A cap rest :: L) G := by
 refine W.func func21 O ntmps21 O<|Wh O<|I.a O O<|Od O<|Wq O<|Wh O<|I.p O O<|I.y O (Y.isNil underlying50 O O)<|Od O<|Wu O O<|Wk O<|Wq O<|W.drawn O (by kernel_rfl) (Ctx _ _ (_) (_)) [] (.op 0 0 (.op 1 0 (.op 2 0 (.op 3 0 (.op 4 0 (.op 5 0 (.op 6 0 (.op 7 0 (.op 8 1 (.op 9 0 .nil)))))))))) O (by kernel_rfl) I.drew.ctx<|?_; replace I := I.drew; generalize World.drew _ = wd at I ⊢; refine I.zp O O<|I.zt O O<|I.zf Ej O O<|I.z O (Y.loadA 0 isAgg23 sizeOf23 O O O O)<|I.zp O O<|I.zt O O<|I.zf Be O O<|I.z O (Y.loadA 0 isAgg57 sizeOf57 O O O O)<|Dw O (X.ret Br9 (Ui p s _ _ _ _ _ _ _ I ) O fun _ I => ⟨I.ctx, I.za O O<|Dd<|We O<|⟨_, Ac.one results21 O, ?_⟩⟩); exact ⟨O, I⟩
theorem Af5 (b : Nat) (T : TypeId) (p : Par) (s : Stt) (A : Option Addr) (cap : Nat) (rest : List Value)  (w0 w : World) (F0 : List Nat) (L G : List Res) (I : St w0 F0 w (frR b T p s A cap rest :: L) G)  :
  Calls Tryz.prog 47 #[.pointer (some ⟨b, 0, none⟩)] w fun e w' => e = .returned (.int .i64 (if Bq p s = 0 then 20 else 0)) ∧ St w0 F0 w' (frR b T p (s) A cap rest :: L) G := by
 refine W.func func47 O ntmps47 O<|Wh O<|I.a O O<|Od O<|Wq O<|Wb O<|Wh O<|I.p O O<|I.y O (Y.isNil underlying50 O O)<|I.g O O<|Od O<|Wu O O<|Wh O<|I.p O O<|Ow O (X.ret Bj3 (Rh b T p s A cap rest _ _ _ _ _ I) O fun _ I => I.Y O O O (fun b9 hb9 => I.g O O<|Od O<|?_)); cases b9
 ·replace hb9 := dF hb9; refine Wu O O<|Wk O<|Wh O<|I.a O O<|Od O<|We O<|⟨_, Ac.one results47 O, ?_⟩; exact ⟨Aj (if_neg hb9).symm, I⟩
 ·replace hb9 := dT hb9; refine Wt O O<|Wh O<|I.a O O<|Od O<|We O<|⟨_, Ac.one results47 O, ?_⟩; exact ⟨Aj (if_pos hb9).symm, I⟩
theorem Ar5 (b : Nat) (T : TypeId) (p : Par) (s : Stt) (A : Option Addr) (cap : Nat) (rest : List Value)  (w0 w : World) (F0 : List Nat) (L G : List Res) (I : St w0 F0 w (frR b T p s A cap rest :: L) G)  :
    Calls Tryz.prog 19 #[.pointer (some ⟨b, 0, none⟩)] w fun e w' => (∃ n, e = .returned (.tuple #[.int .i64 n, .int .i64 (if Bq p s = 0 then 20 else 0)]) ∧ n = (if Bq p s = 0 then 0 else Cn p s.time)) ∧ St w0 F0 w' (frR b T p (s) A cap rest :: L) G := by
  refine W.func func19 O ntmps19 O<|Wh O<|I.a O O<|I.a O O<|Od O<|Wq O<|Wh O<|I.p O O<|Ow O (X.ret Bu9 (Af5 b T p s A cap rest _ _ _ _ _ I) O fun _ I => I.a O O<|Ds O O<|I.u O O<|I.yb O (Y.neq O O) (fun b8 hb8 => Od O<|?_)); cases b8
  · replace hb8 := dF hb8; refine Wu O O<|Wk O<|Wq O<|W.drawn O (by kernel_rfl) (Ctx _ _ (_) (_)) [] (.op 0 0 (.op 1 0 (.op 2 0 (.op 3 0 (.op 4 0 (.op 5 0 (.op 6 0 (.op 7 0 (.op 8 0 (.op 9 1 (.op 10 0 (.op 11 0 .nil)))))))))))) O (by kernel_rfl) I.drew.ctx<|?_; replace I := I.drew; generalize World.drew _ = wd at I ⊢; refine I.zp O O<|I.zt O O<|I.zf Ej O O<|I.z O (Y.loadA 0 isAgg23 sizeOf23 O O O O)<|I.zp O O<|I.zt O O<|I.zf Be O O<|I.zf Hx O O<|I.zl 0 O O O O<|Dw O (X.ret Buq (Y1 p _ _ _ _ _ _ I ) O fun _ I => ⟨I.ctx, I.za O O<|I.za O O<|Dd<|We O<|⟨_, Ac.two results19 O O, ?_⟩⟩)
    first
    | (have hh : Bq p s = 0 := Decidable.by_contra fun h => hb8 (if_neg h)
       exact ⟨⟨0, O, (if_pos hh).symm⟩, I⟩)
    | (have hh : ¬ Bq p s = 0 := fun h => by rw [if_pos h] at hb8; exact absurd hb8 (by decide)
       exact ⟨⟨Cn p s.time, congrArg (fun z => Ending.returned (.tuple #[.int .i64 (Cn p s.time), .int .i64 z])) (if_neg hh).symm, (if_neg hh).symm⟩, I⟩)
  · replace hb8 := dT hb8; refine Wt O O<|Wh O<|I.u O O<|I.a O O<|I.a O O<|Od O<|We O<|⟨_, Ac.two results19 O O, ?_⟩
    first
    | (have hh : Bq p s = 0 := Decidable.by_contra fun h => hb8 (if_neg h)
       exact ⟨⟨0, O, (if_pos hh).symm⟩, I⟩)
    | (have hh : ¬ Bq p s = 0 := fun h => by rw [if_pos h] at hb8; exact absurd hb8 (by decide)
       exact ⟨⟨Cn p s.time, congrArg (fun z => Ending.returned (.tuple #[.int .i64 (Cn p s.time), .int .i64 z])) (if_neg hh).symm, (if_neg hh).symm⟩, I⟩)
theorem Nf (b : Nat) (T : TypeId) (p : Par) (s : Stt) (A : Option Addr) (cap : Nat) (rest : List Value)  (w0 w : World) (F0 : List Nat) (L G : List Res) (I : St w0 F0 w (frR b T p s A cap rest :: L) G)  :
  Calls Tryz.prog 135 #[.pointer (some ⟨b, 0, none⟩)] w fun e w' => e = .returned (.int .i64 (L0 p s)) ∧ St w0 F0 w' (frR b T p (s) A cap rest :: L) G := by
 refine W.func func135 O ntmps135 O<|Wh O<|I.a O O<|Od O<|Wq O<|W.drawn O (by kernel_rfl) (Ctx _ _ (_) (_)) [] (.op 0 0 (.op 1 0 (.op 2 0 (.op 3 0 (.op 4 0 (.op 5 0 (.op 6 0 (.op 7 0 (.op 8 0 (.op 9 0 (.op 10 0 (.op 11 0 (.op 12 0 (.op 13 0 (.op 14 0 (.op 15 1 (.op 16 1 (.op 17 1 (.op 18 0 .nil))))))))))))))))))) O (by kernel_rfl) I.drew.ctx<|?_; replace I := I.drew; generalize World.drew _ = wd at I ⊢; refine I.zp O O<|I.zt O O<|I.zf Be O O<|I.zf Br O O<|I.zf Fb O O<|I.zl 0 O O O O<|I.zp O O<|I.zt O O<|I.zf Ej O O<|I.z O (Y.loadA 0 isAgg23 sizeOf23 O O O O)<|I.zp O O<|I.zt O O<|I.zf Be O O<|I.zf Bt O O<|I.zl 0 O O O O<|Dw O (X.ret Bh0 (Ai0 p _ _ _ _ _ _ I ) O fun _ I => ⟨I.ctx, Dw O (Xl I (by rfl) (by rfl) (by rfl) [.int _ _, .int _ _] (by rfl) (by rfl) fun p19 w19 I => ⟨(I.cx 1), ?_⟩)⟩); refine Dw O (X.ret Dr (Ap [s.hi, far p s.held] _ _ (by simp) _ _ _ _ _ I (Rds.ofCells 0 O 2 2)) O fun _ I => ⟨(I.cx 1), ?_⟩); refine Dq O (I.cx 1) (Y.assignI O)<|Dd<|We O<|⟨_, Ac.one results135 O, ?_⟩; exact ⟨O, (I.dr 1)⟩
theorem At1 (b : Nat) (T : TypeId) (p : Par) (s : Stt) (A : Option Addr) (cap : Nat) (rest : List Value)  (w0 w : World) (F0 : List Nat) (L G : List Res) (I : St w0 F0 w (frR b T p s A cap rest :: L) G) (hn : s.sn ≤ 9223372036854775806) :
  Calls Tryz.prog 137 #[.pointer (some ⟨b, 0, none⟩)] w fun e w' => e = .returned (.tuple #[.agg #[.int .i64 (Bm s).st, .int .i64 (Bm s).sn], .int .i64 0]) ∧ St w0 F0 w' (frR b T p (Bm s) A cap rest :: L) G := by
 refine W.func func137 O ntmps137 O<|Wh O<|Ow O (X.allocA I zeroValue55 fun p2 w2 I => I.a O O<|Od O<|Wq O<|Wh O<|I.p O O<|I.y O (Y.isNil underlying50 O O)<|Od O<|Wu O O<|Wk O<|Wq O<|W.drawn O (by kernel_rfl) (Ctx _ _ (_) (_)) [17] (.op 0 0 (.op 1 0 (.op 2 0 (.op 3 0 (.op 4 0 (.op 5 0 (.op 6 0 (.op 7 0 (.op 8 0 (.op 9 0 (.op 10 0 (.op 11 0 (.op 12 1 (.op 13 0 (.op 14 0 (.op 15 0 (.op 16 0 (.op 17 1 .nil)))))))))))))))))) O (by kernel_rfl) I.drew.ctx<|?_); replace I := I.drew; generalize World.drew _ = wd at I ⊢; refine I.zp O O<|I.zp O O<|I.zt O O<|I.zf Be O O<|I.zf F5 O O<|I.z O (Y.loadA 1 isAgg55 sizeOf55 O O O O)<|I.z O (H6 O)<|I.zp O O<|I.zt O O<|I.zf Be O O<|I.zf Hx O O<|I.zl 1 O O O O<|Dw O (X.ret Ah5 (Nq _ _ _ _ _ _ _ _ I hn) O fun _ I => ⟨I.ctx, I.z O (Y.field O Ai1)<|I.zt O O<|I.zf Be O O<|I.zf F5 O O<|Drw.z O O O O (X.storeS I 1 sizeOf55 O O O O O (lZ O) O O fun _ I => Dd<|Wh O<|I.p O O<|I.t O O<|I.f Be O O<|I.f F5 O O<|I.y O (Y.loadA 1 isAgg55 sizeOf55 O O O O)<|Ow O (X.storeS I 0 sizeOf55 O O O O O (lZ O) O O fun _ I => I.a O O<|Od O<|We O<|⟨_, Ac.cellTmp results137 O (Bd isAgg55 sizeOf55 0 I O O) O, ?_⟩))⟩); exact ⟨O, (I.dr 1)⟩
theorem Ad5 (b : Nat) (T : TypeId) (p : Par) (s : Stt) (A : Option Addr) (cap : Nat) (rest : List Value) (x : Sta) (w0 w : World) (F0 : List Nat) (L G : List Res) (I : St w0 F0 w (frR b T p s A cap rest :: L) G) (hn : s.sn ≤ 9223372036854775806) :
  Calls Tryz.prog 179 #[.pointer (some ⟨b, 0, none⟩), .agg #[.int .i64 x.t, .int .i64 x.n]] w fun e w' => e = .returned (.tuple #[]) ∧ St w0 F0 w' (frR b T p (Ai4 p s x) A cap rest :: L) G := by
 refine W.func func179 O ntmps179 O<|Wh O<|Ow O (X.boxA I O fun p3 w3 I => Ds O O<|I.p O O<|I.y O (Y.notNil underlying50 O O)<|Od O<|Wt O O<|Wq O<|W.drawn O (by kernel_rfl) (Ctx _ _ (_) (_)) [19, 20] (.op 0 0 (.op 1 0 (.op 2 0 (.op 3 0 (.op 4 0 (.op 5 0 (.op 6 0 (.op 7 0 (.op 8 0 (.op 9 0 (.op 10 0 (.op 11 0 (.op 12 0 (.alt 13 (.alt 14 (.op 15 0 (.op 16 0 (.op 17 2 (.op 18 1 (.op 19 1 (.op 20 1 .nil)))))) (.op 18 1 (.op 14 1 (.op 15 0 (.op 16 0 (.op 17 2 (.op 19 1 (.op 20 1 .nil)))))))) (.op 18 1 (.op 13 1 (.op 14 1 (.op 15 0 (.op 16 0 (.op 17 2 (.op 19 1 (.op 20 1 .nil)))))))))))))))))))))) O (by kernel_rfl) I.drew.ctx<|?_); replace I := I.drew; generalize World.drew _ = wd at I ⊢; refine I.zp O O<|I.zt O O<|I.zf Be O O<|I.zf F5 O O<|I.z O (Y.loadA 1 isAgg55 sizeOf55 O O O O)<|I.z O (H6 O)<|I.zp O O<|I.zt O O<|I.zf Be O O<|I.zf Hx O O<|I.zl 1 O O O O<|I.z O (Y.loadA 0 isAgg55 sizeOf55 O O O O)<|I.zp O O<|?_; refine Drw.alts (Alts.more ?_ (Alts.one ?_))
 ·refine One.ww O (X.ret Ah4 (dn1 (Nf b T p s A cap rest _ _ _ _ _ I.up_1)) O fun w22 I => ⟨I.ctx, ?_⟩); refine Drw.alts (Alts.more ?_ (Alts.one ?_))
  ·refine One.ww O (X.call Avz O ?_); refine Ab (Rj _ _ _ _ _ _ _ _ _ _ _ I hn) O ?_; clear I; rintro e w23 ⟨b23, rfl, I⟩; refine ⟨_, O, ⟨I.ctx, ?_⟩⟩; refine I.z O (Y.moveU O)<|I.ze O O O<|Drw.ya O O O I.ctx (Y.extract O O)<|Dw O (X.allocA I zeroValue244 fun p4 w4 I => ⟨(I.cx 1), Drw.z O O O O (X.storeS I 0 sizeOf244 O O O O O (lZ O) O O fun w2_19 I => Drw.zy O O O O I.ctx (Y.assignB O)<|Dd<|Wr O<|I.p O O<|I.f Ig O O<|I.y O (Y.loadA 0 isAgg55 sizeOf55 O O O O)<|I.t O O<|I.f Be O O<|I.f F5 O O<|Ow O (X.storeS I 2 sizeOf55 O O O O O (lZ O) O O fun w3_6 I => Od O<|⟨_, Ac.none results179, ?_⟩))⟩); exact ⟨O, (I.dr 2)⟩
  ·refine One.ww O (X.allocA I zeroValue244 fun p4 w4 I => ⟨(I.cx 1), Dw O (X.call Avz O<|?_)⟩); refine Ab (Rj _ _ _ _ _ _ _ _ _ _ _ I hn) O ?_; clear I; rintro e w23 ⟨b23, rfl, I⟩; refine ⟨_, O, ⟨(I.cx 1), ?_⟩⟩; refine Dq O (I.cx 1) (Y.moveU O)<|Dq O (I.cx 1) (Y.extract O O)<|Drw.ya O O O (I.cx 1) (Y.extract O O)<|Drw.z O O O O (X.storeS I 0 sizeOf244 O O O O O (lZ O) O O fun w2_19 I => Drw.zy O O O O I.ctx (Y.assignB O)<|Dd<|Wr O<|I.p O O<|I.f Ig O O<|I.y O (Y.loadA 0 isAgg55 sizeOf55 O O O O)<|I.t O O<|I.f Be O O<|I.f F5 O O<|Ow O (X.storeS I 2 sizeOf55 O O O O O (lZ O) O O fun w3_6 I => Od O<|⟨_, Ac.none results179, ?_⟩)); exact ⟨O, (I.dr 2)⟩
 ·refine One.ww O (X.allocA I zeroValue244 fun p4 w4 I => ⟨(I.cx 1), Dw O (X.ret Ah4 (dn2 (Nf b T p s A cap rest _ _ _ _ _ I.up_2)) O fun w22 I => ⟨(I.cx 1), Dw O (X.call Avz O<|?_)⟩)⟩); refine Ab (Rj _ _ _ _ _ _ _ _ _ _ _ I hn) O ?_; clear I; rintro e w23 ⟨b23, rfl, I⟩; refine ⟨_, O, ⟨(I.cx 1), ?_⟩⟩; refine Dq O (I.cx 1) (Y.moveU O)<|Dq O (I.cx 1) (Y.extract O O)<|Drw.ya O O O (I.cx 1) (Y.extract O O)<|Drw.z O O O O (X.storeS I 0 sizeOf244 O O O O O (lZ O) O O fun w2_19 I => Drw.zy O O O O I.ctx (Y.assignB O)<|Dd<|Wr O<|I.p O O<|I.f Ig O O<|I.y O (Y.loadA 0 isAgg55 sizeOf55 O O O O)<|I.t O O<|I.f Be O O<|I.f F5 O O<|Ow O (X.storeS I 2 sizeOf55 O O O O O (lZ O) O O fun w3_6 I => Od O<|⟨_, Ac.none results179, ?_⟩)); exact ⟨O, (I.dr 2)⟩
set_option maxHeartbeats 1000000 in
theorem Zj (b : Nat) (T : TypeId) (p : Par) (s : Stt) (A : Option Addr) (cap : Nat) (rest : List Value) (ticks : Int) (nx : Stt) (A2 : Option Addr) (cap2 : Nat) (w0 w : World) (F0 : List Nat) (L G : List Res) (I : St w0 F0 w (frR b T p s A cap rest :: L) G) (hl : nx.tab.length ≤ 1000000) (hwf : ∀ x ∈ nx.tab, Bz x.1 ∧ Bz x.2) (hr : Rds [] G (.slice A2 nx.tab.length cap2) nx.tab.length (lcs nx.tab)) :
  Calls Tryz.prog 123 #[.pointer (some ⟨b, 0, none⟩), .int .i64 ticks, .agg #[.int .i64 nx.lo, .int .i64 nx.hi, .int .i64 nx.time, .bool nx.set, .int .i64 nx.held, .int .i64 nx.hops, .bool nx.good, .slice A2 nx.tab.length cap2, .int .i64 nx.st, .int .i64 nx.sn, .int .i64 nx.life]] w fun e w' => ∃ A' c', e = .returned (.tuple #[]) ∧ St w0 F0 w' (frR b T p (B1 p s ticks nx) A' c' rest :: L) (Af (.slice A' (B1 p s ticks nx).tab.length c') 114 2 (B1 p s ticks nx).tab.length (lcs (B1 p s ticks nx).tab) :: G) := by
 refine W.func func123 O ntmps123 O<|Wh O<|Ow O (X.boxA I O fun p5 w5 I => Od O<|Wq O<|Wh O<|I.p O O<|I.y O (Y.isNil underlying50 O O)<|Od O<|Wu O O<|Wk O<|Wh O<|I.p O O<|I.t O O<|I.f Be O O<|I.y O (Y.loadA 1 isAgg57 sizeOf57 O O O O)<|Ow O (X.allocA I zeroValue57 fun p6 w6 I => Ow O (X.storeS I 0 sizeOf57 O O O O O (lZ O) O O fun _ I => Ds O O<|I.f Br O O<|I.y O (Y.loadA 1 isAgg53 sizeOf53 O O O O)<|Ow O (X.ret Bo3 (Bd7 _ _ _ _ _ _ _ I ) O fun _ I => I.a O O<|Ds O O<|I.u O O<|I.f Hx O O<|I.l 0 O O O O<|I.u O O<|Ow O (Xl I (by rfl) (by rfl) (by rfl) [.int _ _, .int _ _] (by rfl) (by rfl) fun p26 w26 I => ?_))))); refine Ow O (X.ret Dr (Ap [s.time, ticks] _ _ (by simp) _ _ _ _ _ I (Rds.ofCells 0 O 2 2)) O fun _ I => ?_); refine Ow O (X.ret S9 (Ge _ _ _ _ _ _ _ I ) O fun _ I => Ow O (X.ret Aw1 (Nd _ _ _ _ _ _ I ) O fun _ I => I.a O O<|Od O<|Wq O<|?_)); refine W.cut [(0, .pointer _), (1, .int _ _), (5, .pointer _), (6, .pointer _), (7, .int _ _)] (fun _ : Unit => [(9, .bool (decide (Aix p s ticks nx)))]) (fun _ w => St w0 F0 w (Aa p6 (Fk s A cap) 57 :: Aa p5 (Fk nx A2 cap2) 57 :: frR b T p s A cap rest :: L) G) ⟨O, O, O, O, O, trivial⟩ ?_ ?_
 rotate_left
 ·clear I; rintro _ j w5 I; refine Wq O ?_; refine W.cut [(0, .pointer _), (5, .pointer _), (6, .pointer _)] (fun x : Nat => [(10, .pointer (some ⟨x, 0, none⟩))]) (fun x w => St w0 F0 w (Aa x [.int .i64 (I1 p s ticks nx), .bool true] 241 :: Aa p6 (Fk s A cap) 57 :: Aa p5 (Fk nx A2 cap2) 57 :: frR b T p s A cap rest :: L) G) ⟨O, O, O, trivial⟩ ?_ ?_
  rotate_left
  ·clear I; rintro p10 j w6 I; refine Wq O<|W.drawn O (by kernel_rfl) (Ctx _ _ (_) (_)) [9] (.op 0 0 (.op 1 0 (.op 2 0 (.op 3 0 (.op 4 0 (.op 5 0 (.op 6 1 (.op 7 0 (.op 8 0 (.op 9 1 .nil)))))))))) O (by kernel_rfl) I.drew.ctx<|?_; replace I := I.drew; generalize World.drew _ = wd at I ⊢; refine I.zp O O<|I.zp O O<|I.zt O O<|I.zf Ej O O<|I.z O (Y.loadA 3 isAgg23 sizeOf23 O O O O)<|I.z O (Y.loadA 2 isAgg57 sizeOf57 O O O O)<|Dw O (X.call Bj1 O<|?_); refine Ab (Sj p nx _ _ hl hwf _ _ _ _ _ I hr) O ?_; clear I; rintro e w67 ⟨A67, c67, rfl, I⟩; refine ⟨_, O, ⟨(I.cxg 0 1), ?_⟩⟩; refine Dq O (I.cxg 0 1) (Y.nilCheck O)<|Dq O (I.cxg 0 1) (Y.fieldAddr Be O)<|Drw.z O O O O (X.storeS I 3 sizeOf57 O O O O O (lZ O) O O fun _ I => Dd<|Wq O<|?_); replace I := I.up_3; refine I.dw 1 [] (T0 [0,1,2,3,4,5,6,7,8,9,10,11] (.op 12 1 (T0 [13,14,15] (.op 16 1 (T0 [17,18,19] (.op 20 1 (T0 [21,22,23] (.op 24 1 (T0 [25,26,27] (.op 28 1 .nil)))))))))) O (by kernel_rfl) O (by kernel_rfl) fun wd I => ?_; refine Dq O (I.cx 1) (Y.moveP O)<|Dq O (I.cx 1) (Y.moveP O)<|Dq O (I.cx 1) (Y.moveP O)<|Dq O (I.cx 1) (Y.moveP O)<|Dq O (I.cx 1) (Y.fieldAddr M5 O)<|Dq O (I.cx 1) (Y.load 0 isAgg3 O O O)<|Dq O (I.cx 1) (Y.fieldAddr Ahz O)<|Dq O (I.cx 1) (Y.load 0 isAgg4 O O O)<|Dq O (I.cx 1) (Y.fieldAddr F5 O)<|Dq O (I.cx 1) (Y.loadA 1 isAgg55 sizeOf55 O O O O)<|Dq O (I.cx 1) (Y.fieldAddr Kp O)<|Dq O (I.cx 1) (Y.load 1 isAgg3 O O O)<|Dw O (X.ret Nv (C1 _ _ _ _ _ _ _ _ I ) O fun _ I => ⟨(I.cx 1), Dq O (I.cx 1) (Y.nilCheck O)<|Dq O (I.cx 1) (Y.fieldAddr Be O)<|Dq O (I.cx 1) (Y.fieldAddr Hx O)<|Dw O (X.storeV I 0 (.int _ _) sizeOf3 O O O O (lZ O) O O fun _ I => ⟨(I.cx 1), Dq O (I.cx 1) (Y.nilCheck O)<|Dq O (I.cx 1) (Y.fieldAddr Be O)<|Dq O (I.cx 1) (Y.fieldAddr Abq O)<|Dw O (X.storeV I 0 (.bool _) sizeOf4 O O O O (lZ O) O O fun _ I => ⟨(I.cx 1), Dq O (I.cx 1) (Y.nilCheck O)<|Dq O (I.cx 1) (Y.fieldAddr Be O)<|Dq O (I.cx 1) (Y.fieldAddr F5 O)<|Dw O (X.storeS I 0 sizeOf55 O O O O O (lZ O) O O fun _ I => ⟨(I.cx 1), Dq O (I.cx 1) (Y.nilCheck O)<|Dq O (I.cx 1) (Y.fieldAddr Be O)<|Dq O (I.cx 1) (Y.fieldAddr Kp O)<|Dw O (X.storeV I 0 (.int _ _) sizeOf3 O O O O (lZ O) O O fun _ I => ⟨(I.cx 1), Dd<|Wq O<|?_⟩)⟩)⟩)⟩)⟩); refine W.cut [(0, .pointer _), (6, .pointer _), (10, .pointer _)] (fun x : Nat × Bool => [(11, .pointer (some ⟨x.1, 0, none⟩)), (12, .bool x.2)]) (fun x w => x.2 = decide (s.sta.mended (L0 p (Pp p s ticks nx))) ∧ St w0 F0 w (Aa x.1 [.int .i64 (s.sta.mend (I1 p s ticks nx) (L0 p (Pp p s ticks nx))).t, .int .i64 (s.sta.mend (I1 p s ticks nx) (L0 p (Pp p s ticks nx))).n] 244 :: frR b T p (Pp p s ticks nx) A67 c67 rest :: Aa p10 [.int .i64 (I1 p s ticks nx), .bool true] 241 :: Aa p6 (Fk s A cap) 57 :: Aa p5 (Fk nx A2 cap2) 57 :: L) (Af (.slice A67 (Bf p nx).tab.length c67) 114 2 (Bf p nx).tab.length (lcs (Bf p nx).tab) :: G)) ⟨O, O, O, trivial⟩ ?_ ?_
   rotate_left
   ·clear I; rintro ⟨p11, b12⟩ j w9 ⟨hb12, I⟩; refine Wh O<|I.p O O<|I.y O (Y.loadA 0 isAgg244 sizeOf244 O O O O)<|I.f M5 O O<|I.l 2 O O O O<|Ow O (X.ret Ah5 (Nq _ _ _ _ _ _ _ _ I (Bl6 _ _ _)) O fun _ I => I.y O (Y.field O Ai1)<|I.t O O<|I.f Be O O<|I.f F5 O O<|Ow O (X.storeS I 1 sizeOf55 O O O O O (lZ O) O O fun _ I => Ds O O<|I.b O O<|I.b O O<|?_)); cases b12
    ·replace hb12 := dF hb12; refine I.f M5 O O<|I.l 2 O O O O<|I.f Hx O O<|I.l 3 O O O O<|I.v O O O (fun b121 hb121 => I.k O O O<|Od O<|?_); cases b121
     ·replace hb121 := dF hb121; refine Wu O O<|Wk O<|⟨_, Ac.none results123, ?_⟩; have hq : B1 p s ticks nx = Mt p s ticks nx := if_neg (fun h => h.elim hb12 hb121); rw [Ln]; refine ⟨A67, c67, O, ?_⟩; rw [hq]; exact (I.sub (.cons _ (.cons_cons _ (.cons _ (.cons _ (.cons _ (.refl _)))))))
     ·replace hb121 := dT hb121; refine Wt O O<|Wr O<|I.p O O<|I.p O O<|I.t O O<|I.f Be O O<|I.f Kp O O<|I.l 1 O O O O<|Ow O (Xl I (by rfl) (by rfl) (by rfl) [.int _ _, .int _ _] (by rfl) (by rfl) fun p129 w129 I => ?_); refine Ow O (X.ret Dr (Ap [Bg s.life 0 2305843009213693952, 1] _ _ (by simp) _ _ _ _ _ I (Rds.ofCells 0 O 2 2)) O fun w130 I => ?_); refine Ow O (X.ret Nv (C1 _ _ _ _ _ _ _ _ I ) O fun w131 I => I.t O O<|I.f Be O O<|I.f Kp O O<|Ow O (X.storeV I 2 (.int _ _) sizeOf3 O O O O (lZ O) O O fun w12_12 I => Od O<|⟨_, Ac.none results123, ?_⟩)); have hq : B1 p s ticks nx = { Mt p s ticks nx with life := Bg (Bb [Bg s.life 0 2305843009213693952, 1]) 0 2305843009213693952 } := if_pos (Or.inr hb121); rw [Ln]; refine ⟨A67, c67, O, ?_⟩; rw [hq]; exact (I.sub (.cons _ (.cons _ (.cons_cons _ (.cons _ (.cons _ (.cons _ (.refl _))))))))
    ·replace hb12 := dT hb12; refine On O<|On O<|On O<|On O<|On O<|I.k O O O<|Od O<|Wt O O<|Wr O<|I.p O O<|I.p O O<|I.t O O<|I.f Be O O<|I.f Kp O O<|I.l 1 O O O O<|Ow O (Xl I (by rfl) (by rfl) (by rfl) [.int _ _, .int _ _] (by rfl) (by rfl) fun p129 w129 I => ?_); refine Ow O (X.ret Dr (Ap [Bg s.life 0 2305843009213693952, 1] _ _ (by simp) _ _ _ _ _ I (Rds.ofCells 0 O 2 2)) O fun w130 I => ?_); refine Ow O (X.ret Nv (C1 _ _ _ _ _ _ _ _ I ) O fun w131 I => I.t O O<|I.f Be O O<|I.f Kp O O<|Ow O (X.storeV I 2 (.int _ _) sizeOf3 O O O O (lZ O) O O fun w12_12 I => Od O<|⟨_, Ac.none results123, ?_⟩)); have hq : B1 p s ticks nx = { Mt p s ticks nx with life := Bg (Bb [Bg s.life 0 2305843009213693952, 1]) 0 2305843009213693952 } := if_pos (Or.inl hb12); rw [Ln]; refine ⟨A67, c67, O, ?_⟩; rw [hq]; exact (I.sub (.cons _ (.cons _ (.cons_cons _ (.cons _ (.cons _ (.cons _ (.refl _))))))))
   refine I.dv [12,13] (T0 [0,1,2,3,4,5] (.alt 6 (.alt 7 (T0 [8,9] (.op 10 2 (T1 [11,12,13] .nil))) (T1 [11,7] (T0 [8,9] (.op 10 2 (T1 [12,13] .nil))))) (T1 [11,6,7] (T0 [8,9] (.op 10 2 (T1 [12,13] .nil)))))) O (by kernel_rfl) O (by kernel_rfl) fun wd I => ?_; refine I.zf F5 O O<|I.z O (Y.loadA 2 isAgg55 sizeOf55 O O O O)<|I.z O (H6 O)<|I.zf M5 O O<|I.zl 1 O O O O<|I.zp O O<|?_; refine Drw.alts (Alts.more ?_ (Alts.one ?_))
   ·refine One.ww O (X.ret Ah4 (Nf b T p (Pp p s ticks nx) A67 c67 rest _ _ _ _ _ I) O fun w102 I => ⟨I.ctx, ?_⟩); refine Drw.alts (Alts.more ?_ (Alts.one ?_))
    ·refine One.ww O (X.call Avq O ?_); refine Ab (Rz _ _ _ _ _ _ _ _ _ I) O ?_; clear I; rintro e w103 ⟨b103, rfl, hb103, I⟩; refine ⟨_, O, ⟨I.ctx, ?_⟩⟩; refine I.z O (Y.moveU O)<|I.ze O O O<|Drw.ya O O O I.ctx (Y.extract O O)<|Dw O (X.allocA I zeroValue244 fun p11 w11 I => ⟨(I.cx 1), Drw.z O O O O (X.storeS I 0 sizeOf244 O O O O O (lZ O) O O fun w9_12 I => Drw.zy O O O O I.ctx (Y.assignB O)<|Dd<|?_)⟩); exact ⟨(_, b103), ⟨O, O, trivial⟩, ⟨O, O, O, trivial⟩, hb103, I⟩
    ·refine One.ww O (X.allocA I zeroValue244 fun p11 w11 I => ⟨(I.cx 1), Dw O (X.call Avq O<|?_)⟩); refine Ab (Rz _ _ _ _ _ _ _ _ _ I) O ?_; clear I; rintro e w103 ⟨b103, rfl, hb103, I⟩; refine ⟨_, O, ⟨(I.cx 1), ?_⟩⟩; refine Dq O (I.cx 1) (Y.moveU O)<|Dq O (I.cx 1) (Y.extract O O)<|Drw.ya O O O (I.cx 1) (Y.extract O O)<|Drw.z O O O O (X.storeS I 0 sizeOf244 O O O O O (lZ O) O O fun w9_12 I => Drw.zy O O O O I.ctx (Y.assignB O)<|Dd<|?_); exact ⟨(_, b103), ⟨O, O, trivial⟩, ⟨O, O, O, trivial⟩, hb103, I⟩
   ·refine One.ww O (X.allocA I zeroValue244 fun p11 w11 I => ⟨(I.cx 1), Dw O (X.ret Ah4 (dn1 (Nf b T p (Pp p s ticks nx) A67 c67 rest _ _ _ _ _ I.up_1)) O fun w102 I => ⟨(I.cx 1), Dw O (X.call Avq O<|?_)⟩)⟩); refine Ab (Rz _ _ _ _ _ _ _ _ _ I) O ?_; clear I; rintro e w103 ⟨b103, rfl, hb103, I⟩; refine ⟨_, O, ⟨(I.cx 1), ?_⟩⟩; refine Dq O (I.cx 1) (Y.moveU O)<|Dq O (I.cx 1) (Y.extract O O)<|Drw.ya O O O (I.cx 1) (Y.extract O O)<|Drw.z O O O O (X.storeS I 0 sizeOf244 O O O O O (lZ O) O O fun w9_12 I => Drw.zy O O O O I.ctx (Y.assignB O)<|Dd<|?_); exact ⟨(_, b103), ⟨O, O, trivial⟩, ⟨O, O, O, trivial⟩, hb103, I⟩
  refine I.dv [14] (T0 [0,1,2,3,4,5,6,7,8,9,10,11] (.alt 12 (T1 [13,14] .nil) (T1 [13,12,14] .nil))) O (by kernel_rfl) O (by kernel_rfl) fun wd I => ?_; refine I.zf Hx O O<|I.zl 0 O O O O<|I.zf Abq O O<|I.z O (Y.load 0 isAgg4 O O O)<|I.z O (Lb O)<|I.zp O O<|I.zt O O<|I.zf Ej O O<|I.z O (Y.loadA 2 isAgg23 sizeOf23 O O O O)<|I.zu O O<|I.zu O O<|I.zb O O<|?_; refine Drw.alts (Alts.more ?_ (Alts.one ?_))
  ·refine One.ww O (X.ret Bh1 (Zg _ _ p _ _ _ _ _ _ _ _ I ) O fun w60 I => ⟨I.ctx, Dw O (X.allocA I zeroValue241 fun p10 w10 I => ⟨(I.cx 1), Drw.z O O O O (X.storeS I 0 sizeOf241 O O O O O (lZ O) O O fun w6_14 I => Dd<|?_)⟩)⟩); exact ⟨_, ⟨O, trivial⟩, ⟨O, O, O, trivial⟩, I⟩
  ·refine One.ww O (X.allocA I zeroValue241 fun p10 w10 I => ⟨(I.cx 1), Dw O (X.ret Bh1 (Zg _ _ p _ _ _ _ _ _ _ _ I ) O fun w60 I => ⟨(I.cx 1), Drw.z O O O O (X.storeS I 0 sizeOf241 O O O O O (lZ O) O O fun w6_14 I => Dd<|?_)⟩)⟩); exact ⟨_, ⟨O, trivial⟩, ⟨O, O, O, trivial⟩, I⟩
 refine I.dv [] (T0 [0,1,2,3,4] (.op 5 1 (T0 [6,7,8,9,10,11,12,13,14] (.op 15 1 (T0 [16,17,18] .nil))))) O (by kernel_rfl) O (by kernel_rfl) fun wd I => ?_; refine I.zp O O<|I.zt O O<|I.zf Ej O O<|I.z O (Y.loadA 3 isAgg23 sizeOf23 O O O O)<|I.z O (Y.loadA 1 isAgg57 sizeOf57 O O O O)<|Dw O (X.ret Br9 (Ui p s _ _ _ _ _ _ _ I ) O fun _ I => ⟨I.ctx, Drw.yb O O O I.ctx (Y.eql O O) (fun b36 hb36 => I.zb O O<|?_)⟩); cases b36
 ·replace hb36 := dF hb36; refine I.zu O O<|I.zp O O<|I.zt O O<|I.zf Ej O O<|I.z O (Y.loadA 3 isAgg23 sizeOf23 O O O O)<|I.zf Bt O O<|I.zl 2 O O O O<|Dw O (X.ret Bh0 (Ai0 p _ _ _ _ _ _ I ) O fun _ I => ⟨I.ctx, Drw.yb O O O I.ctx (Y.gtr O O) (fun b46 hb46 => I.zk O O O<|I.zg O O<|Dd<|?_)⟩); exact ⟨(), ⟨congrArg Value.bool (hb46.trans (decide_eq_decide.2 ⟨Or.inr, fun h => h.resolve_left hb36⟩)), trivial⟩, ⟨O, O, O, O, O, trivial⟩, (I.dr 1)⟩
 ·replace hb36 := dT hb36; refine I.o O<|I.o O<|I.o O<|I.o O<|I.o O<|I.o O<|I.o O<|Drw.noX O O O I.ctx<|I.o O<|I.zk O O O<|I.zg O O<|Dd<|?_; exact ⟨(), ⟨congrArg Value.bool (decide_eq_true (Or.inl hb36)).symm, trivial⟩, ⟨O, O, O, O, O, trivial⟩, (I.dr 1)⟩
end
end Go.Proofs.YtaanjifekgfemaaGreat.Cl
