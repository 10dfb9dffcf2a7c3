/- What the proof rests on, part 4. -/
import Derived.Test.YtaanjifekgfemaaGreatF3
set_option linter.unusedVariables false
set_option linter.unusedSimpArgs false
set_option linter.unusedSectionVars false
namespace Go.Proofs.YtaanjifekgfemaaGreat.Cl
section
open Tryz Go.RowKit YtaanjifekgfemaaGreat.K YtaanjifekgfemaaGreat.W
attribute [local irreducible] Bg Ak Bb sub neg mag Da mul Dy
theorem Bs8 (b : Nat) (i : Int) : elt (some ⟨b, 1, none⟩) i 1 = ⟨b, 1 + i.toNat * 1, none⟩ := by
 unfold elt; show (⟨b, 1, none⟩ : Addr).add _ = _; rw [B6]
theorem Y.idx1 {P : Program} {S : World → Prop} {ρ : Env} {ty t e : TypeId} {x y : Operand} (ht : P.underlying t = some (.slice e)) (hs : ∀ w, (sizeOf e).run P w = .ok 1 w) {b l cp : Nat} (hx : ev ρ x = .slice (some ⟨b, 1, none⟩) l cp) {ki : IntKind} {i : Int} (hi : ev ρ y = .int ki i) (h0 : 0 ≤ i ∧ i < l) :
  Y P S ρ (.indexAddr t x y) ty (.pointer (some ⟨b, 1 + i.toNat * 1, none⟩)) := by
 rw [← Bs8]; exact Y.indexAddr ht hs hx hi (by simp) h0
theorem Y.idx1z {P : Program} {S : World → Prop} {ρ : Env} {ty t e : TypeId} {x y : Operand} (ht : P.underlying t = some (.slice e)) (hs : ∀ w, (sizeOf e).run P w = .ok 1 w) {b l cp : Nat} (hx : ev ρ x = .slice (some ⟨b, 1, none⟩) l cp) (hi : ev ρ y = .int .i64 0) (h0 : 0 < l) :
  Y P S ρ (.indexAddr t x y) ty (.pointer (some ⟨b, 1, none⟩)) := Y.idx1 ht hs hx hi (by omega)
theorem Bex : K.str smL = { data := #[48, 48, 48, 49, 48, 50, 48, 51, 48, 52, 48, 53, 48, 54, 48, 55, 48, 56, 48, 57, 49, 48, 49, 49, 49, 50, 49, 51, 49, 52, 49, 53, 49, 54, 49, 55, 49, 56, 49, 57, 50, 48, 50, 49, 50, 50, 50, 51, 50, 52, 50, 53, 50, 54, 50, 55, 50, 56, 50, 57, 51, 48, 51, 49, 51, 50, 51, 51, 51, 52, 51, 53, 51, 54, 51, 55, 51, 56, 51, 57, 52, 48, 52, 49, 52, 50, 52, 51, 52, 52, 52, 53, 52, 54, 52, 55, 52, 56, 52, 57, 53, 48, 53, 49, 53, 50, 53, 51, 53, 52, 53, 53, 53, 54, 53, 55, 53, 56, 53, 57, 54, 48, 54, 49, 54, 50, 54, 51, 54, 52, 54, 53, 54, 54, 54, 55, 54, 56, 54, 57, 55, 48, 55, 49, 55, 50, 55, 51, 55, 52, 55, 53, 55, 54, 55, 55, 55, 56, 55, 57, 56, 48, 56, 49, 56, 50, 56, 51, 56, 52, 56, 53, 56, 54, 56, 55, 56, 56, 56, 57, 57, 48, 57, 49, 57, 50, 57, 51, 57, 52, 57, 53, 57, 54, 57, 55, 57, 56, 57, 57] } := by decide +kernel
theorem Y.sm {P : Program} {S : World → Prop} {ρ : Env} {ty t : TypeId} {x y : Operand} (ht : P.underlying t = some .string) (hx : ev ρ x = .string { data := #[48, 48, 48, 49, 48, 50, 48, 51, 48, 52, 48, 53, 48, 54, 48, 55, 48, 56, 48, 57, 49, 48, 49, 49, 49, 50, 49, 51, 49, 52, 49, 53, 49, 54, 49, 55, 49, 56, 49, 57, 50, 48, 50, 49, 50, 50, 50, 51, 50, 52, 50, 53, 50, 54, 50, 55, 50, 56, 50, 57, 51, 48, 51, 49, 51, 50, 51, 51, 51, 52, 51, 53, 51, 54, 51, 55, 51, 56, 51, 57, 52, 48, 52, 49, 52, 50, 52, 51, 52, 52, 52, 53, 52, 54, 52, 55, 52, 56, 52, 57, 53, 48, 53, 49, 53, 50, 53, 51, 53, 52, 53, 53, 53, 54, 53, 55, 53, 56, 53, 57, 54, 48, 54, 49, 54, 50, 54, 51, 54, 52, 54, 53, 54, 54, 54, 55, 54, 56, 54, 57, 55, 48, 55, 49, 55, 50, 55, 51, 55, 52, 55, 53, 55, 54, 55, 55, 55, 56, 55, 57, 56, 48, 56, 49, 56, 50, 56, 51, 56, 52, 56, 53, 56, 54, 56, 55, 56, 56, 56, 57, 57, 48, 57, 49, 57, 50, 57, 51, 57, 52, 57, 53, 57, 54, 57, 55, 57, 56, 57, 57] }) {ki : IntKind} {i : Int} (hy : ev ρ y = .int ki i) (h : 0 ≤ i ∧ i < 200) : Y P S ρ (.index t x y) ty (bv (smB i)) := by
 rw [← Bex] at hx; exact Y.indexT ht (k := i.toNat) hx hy (by omega) (by rw [Aeq]; omega)
set_option maxHeartbeats 4000000 in
theorem Ai2 (b : Nat) (T : TypeId) (cs : List UInt8) (hcs : cs.length = 24) (nd : Nat) (hnd : nd ≤ 23) (cp : Nat) (u : Int) (hu : 0 ≤ u ∧ u ≤ 18446744073709551615) (w0 w : World) (F0 : List Nat) (L G : List Res) (I : St w0 F0 w (Aa b (bvs (cs)) T :: L) G) :
  Calls Tryz.prog 206 #[.slice (some ⟨b, 1, none⟩) nd cp, .int .u64 u] w fun e w' => e = .returned (.tuple #[]) ∧ St w0 F0 w' (Aa b (bvs (Jh cs nd u)) T :: L) G := by
 refine W.func func206 O ntmps206 O<|Wh O<|I.s O O<|I.y O (Y.lenS underlying172 O)<|I.a O O<|Od O<|Wq O<|Wb O<|?_; refine W.loop (γ := FS) [(0, .slice _ _ _)] (fun x => [(4, .int .i64 (x.n : Int)), (1, .int .u64 x.u)]) (fun x w => (∃ f, (Ly f x = Ly 3 ⟨cs, nd, u⟩ ∧ x.cs.length = 24) ∧ x.n ≤ nd ∧ x.n ≤ 8 * f + 7 ∧ 0 ≤ x.u ∧ x.u ≤ 18446744073709551615) ∧ St w0 F0 w (Aa b (bvs (x.cs)) T :: L) G) (fun x => x.n) (⟨cs, nd, u⟩) O ⟨O, trivial⟩ ?_ ?_ ?_
 ·exact ⟨O, O, trivial⟩
 ·exact ⟨⟨3, ⟨O, hcs⟩, by dsimp only; omega, by dsimp only; omega, hu⟩, I⟩
 ·clear I; rintro s j w2 ⟨⟨f, ⟨hl, hsl⟩, hn, hf, hu0, hu1⟩, I⟩; refine Wq O<|Wh O<|I.u O O<|I.W O O O (fun b20 hb20 => Od O<|?_); cases b20
  ·replace hb20 := dF hb20; refine Wu O O<|W.exit O<|Wq O<|?_; have e8 : Ly f s = s := Yj (by omega); refine Wr O<|I.u O O<|I.y O (Y.conv32 underlying199 underlying192 O)<|I.a O O<|Od O<|Wq O<|Wh O<|I.u O O<|I.W O O O (fun b99 hb99 => Od O<|?_); refine W.cut [(0, .slice _ _ _)] (fun x : FS => [(4, .int .i64 (x.n : Int)), (12, .int .u32 x.u)]) (fun x w => (x = t4 (Lt s) ∧ x.cs.length = 24 ∧ x.n ≤ nd ∧ 0 ≤ x.u ∧ x.u ≤ 4294967295) ∧ St w0 F0 w (Aa b (bvs (x.cs)) T :: L) G) ⟨O, trivial⟩ ?_ ?_
   rotate_left
   ·clear I; rintro s4 j w4 ⟨⟨hs4, hl4, hn4, hu4, hv4⟩, I⟩; refine Wq O<|Wh O<|I.u O O<|I.W O O O (fun b139 hb139 => Od O<|?_); refine W.cut [(0, .slice _ _ _)] (fun x : FS => [(4, .int .i64 (x.n : Int)), (12, .int .u32 x.u)]) (fun x w => (x = t2 s4 ∧ x.cs.length = 24 ∧ x.n ≤ nd ∧ 0 ≤ x.u ∧ x.u ≤ 4294967295) ∧ St w0 F0 w (Aa b (bvs (x.cs)) T :: L) G) ⟨O, trivial⟩ ?_ ?_
    rotate_left
    ·clear I; rintro s2 j w4 ⟨⟨hs2, hl2, hn2, hu2, hv2⟩, I⟩; refine Wh O<|I.u O O<|I.V O O O (fun b161 hb161 => Od O<|?_); cases b161
     ·replace hb161 := dF hb161; refine Wu O O<|Wk O<|⟨_, Ac.none results206, ?_⟩; have hq : Jh cs nd u = s2.cs := by unfold Jh; rw [← hl, e8, ← hs4, ← hs2]; exact if_neg (by omega)
      exact ⟨O, by rw [hq]; exact I⟩
     ·replace hb161 := dT hb161; refine Wt rfl rfl<|Wr rfl<|I.s rfl rfl<|I.u rfl rfl<|I.y rfl (Y.add rfl rfl)<|I.y rfl (Y.cast (Y.conv underlying5 underlying199 rfl) (A71 _))<|I.y rfl (Y.idx1z underlying172 sizeOf5 rfl rfl (by omega))<|Ow rfl (X.storeV I 0 (bv _) sizeOf5 rfl rfl rfl rfl (by simp only [Ao, List.length_set, Bc]; omega) (Dz _ _ _) rfl fun _ I => ?_); refine Od O<|⟨_, Ac.none results206, ?_⟩; have hq : Jh cs nd u = s2.cs.set 1 (ub (IntKind.u32.wrap (48 + s2.u))) := by unfold Jh; rw [← hl, e8, ← hs4, ← hs2]; exact if_pos (by omega)
      exact ⟨O, by rw [hq]; exact I⟩
    cases b139
    ·replace hb139 := dF hb139; refine Wu O O<|Wk O<|?_; have hq : t2 s4 = s4 := if_neg (by omega); exact ⟨s4, ⟨O, O, trivial⟩, ⟨O, trivial⟩, ⟨hq.symm, hl4, hn4, hu4, hv4⟩, I⟩
    ·replace hb139 := dT hb139; refine Wt O O<|Wh O<|I.u O O<|I.y O (Y.remI O O (by omega))<|I.y O (Y.mul32 O O (by omega))<|I.a O O<|Ds O O<|I.u O O<|I.y O (Y.quo32 O O (by omega))<|I.a O O<|Od O<|Wq O<|W.drawn O (by kernel_rfl) (Ctx _ _ (_) (_)) [12, 13, 14] (.op 0 0 (.op 1 0 (.op 2 0 (.op 3 2 (.op 4 2 (.op 5 2 (.op 6 0 (.op 7 0 (.op 8 0 (.op 9 2 (.op 10 2 (.op 11 0 (.op 12 1 (.op 13 1 (.op 14 1 .nil))))))))))))))) O (by kernel_rfl) I.drew.ctx<|?_; replace I := I.drew; generalize World.drew _ = wd at I ⊢; refine I.zs rfl rfl<|I.zu rfl rfl<|I.z rfl (Y.subI rfl rfl (by omega))<|Drw.ya rfl rfl rfl I.ctx (Y.moveS rfl)<|Drw.ya rfl rfl rfl I.ctx (Y.moveI rfl)<|Drw.ya rfl rfl rfl I.ctx (Y.subI rfl rfl (by omega))<|I.zu rfl rfl<|I.z rfl (Y.add32 rfl rfl (by omega))<|I.z rfl (Y.sm underlying9 rfl rfl (by omega))<|Drw.ya rfl rfl rfl I.ctx (Y.moveI rfl)<|Drw.ya rfl rfl rfl I.ctx (Y.sm underlying9 rfl rfl (by omega))<|I.z rfl (Y.idx1 underlying172 sizeOf5 rfl rfl (by omega))<|Drw.z rfl rfl rfl rfl (X.storeV I 0 (bv _) sizeOf5 rfl rfl rfl rfl (by simp only [Ao, List.length_set, Bc]; omega) (Dz _ _ _) rfl fun _ I => ?_); refine Drw.zy rfl rfl rfl rfl I.ctx (Y.idx1 underlying172 sizeOf5 rfl rfl (by omega))<|Drw.z rfl rfl rfl rfl (X.storeV I 0 (bv _) sizeOf5 rfl rfl rfl rfl (by simp only [Ao, List.length_set, Bc]; omega) (Dz _ _ _) rfl fun _ I => ?_); refine Dd<|Wr O<|I.u O O<|I.y O (Y.subI O O (by omega))<|I.a O O<|Od O<|?_; have hq : t2 s4 = ⟨Mf s4.cs ((s4.n : Int) - 1) ((s4.n : Int) - 2) (s4.u % 100 * 2), s4.n - 2, s4.u / 100⟩ := if_pos (by omega); refine ⟨⟨_, s4.n - 2, s4.u / 100⟩, ⟨?_, O, trivial⟩, ⟨O, trivial⟩, ⟨hq.symm, by dsimp only; rw [Bc]; exact hl4, by dsimp only; omega, by dsimp only; omega, by dsimp only; omega⟩, I⟩; exact congrArg (Value.int .i64) (show (s4.n : Int) - 2 = ((s4.n - 2 : Nat) : Int) by omega)
   cases b99
   ·replace hb99 := dF hb99; refine Wu O O<|Wk O<|?_; have hq : t4 (Lt s) = Lt s := if_neg (by dsimp only [Lt]; omega); exact ⟨Lt s, ⟨O, O, trivial⟩, ⟨O, trivial⟩, ⟨hq.symm, hsl, hn, by dsimp only [Lt]; omega, by dsimp only [Lt]; omega⟩, I⟩
   ·replace hb99 := dT hb99; refine Wt O O<|Wh O<|I.u O O<|I.y O (Y.remI O O (by omega))<|I.a O O<|Ds O O<|I.u O O<|I.y O (Y.quo32 O O (by omega))<|I.a O O<|Ds O O<|I.u O O<|I.y O (Y.quo32 O O (by omega))<|I.y O (Y.mul32 O O (by omega))<|I.u O O<|I.y O (Y.remI O O (by omega))<|I.y O (Y.mul32 O O (by omega))<|I.a O O<|I.a O O<|Od O<|Wq O<|W.drawn O (by kernel_rfl) (Ctx _ _ (_) (_)) [12, 13, 14] (.op 0 0 (.op 1 0 (.op 2 0 (.op 3 2 (.op 4 2 (.op 5 2 (.op 6 0 (.op 7 0 (.op 8 0 (.op 9 2 (.op 10 2 (.op 11 0 (.op 12 1 (.op 13 1 (.op 14 1 .nil))))))))))))))) O (by kernel_rfl) I.drew.ctx<|?_; replace I := I.drew; generalize World.drew _ = wd at I ⊢; refine I.zs rfl rfl<|I.zu rfl rfl<|I.z rfl (Y.subI rfl rfl (by omega))<|Drw.ya rfl rfl rfl I.ctx (Y.moveS rfl)<|Drw.ya rfl rfl rfl I.ctx (Y.moveI rfl)<|Drw.ya rfl rfl rfl I.ctx (Y.subI rfl rfl (by omega))<|I.zu rfl rfl<|I.z rfl (Y.add32 rfl rfl (by omega))<|I.z rfl (Y.sm underlying9 rfl rfl (by omega))<|Drw.ya rfl rfl rfl I.ctx (Y.moveI rfl)<|Drw.ya rfl rfl rfl I.ctx (Y.sm underlying9 rfl rfl (by omega))<|I.z rfl (Y.idx1 underlying172 sizeOf5 rfl rfl (by omega))<|Drw.z rfl rfl rfl rfl (X.storeV I 0 (bv _) sizeOf5 rfl rfl rfl rfl (by simp only [Ao, List.length_set, Bc]; omega) (Dz _ _ _) rfl fun _ I => ?_); refine Drw.zy rfl rfl rfl rfl I.ctx (Y.idx1 underlying172 sizeOf5 rfl rfl (by omega))<|Drw.z rfl rfl rfl rfl (X.storeV I 0 (bv _) sizeOf5 rfl rfl rfl rfl (by simp only [Ao, List.length_set, Bc]; omega) (Dz _ _ _) rfl fun _ I => ?_); refine Dd<|Wq O<|W.drawn O (by kernel_rfl) (Ctx _ _ (_) (_)) [12, 13, 14] (.op 0 0 (.op 1 0 (.op 2 0 (.op 3 2 (.op 4 2 (.op 5 2 (.op 6 0 (.op 7 0 (.op 8 0 (.op 9 2 (.op 10 2 (.op 11 0 (.op 12 1 (.op 13 1 (.op 14 1 .nil))))))))))))))) O (by kernel_rfl) I.drew.ctx<|?_; replace I := I.drew; generalize World.drew _ = wd at I ⊢; refine I.zs rfl rfl<|I.zu rfl rfl<|I.z rfl (Y.subI rfl rfl (by omega))<|Drw.ya rfl rfl rfl I.ctx (Y.moveS rfl)<|Drw.ya rfl rfl rfl I.ctx (Y.moveI rfl)<|Drw.ya rfl rfl rfl I.ctx (Y.subI rfl rfl (by omega))<|I.zu rfl rfl<|I.z rfl (Y.add32 rfl rfl (by omega))<|I.z rfl (Y.sm underlying9 rfl rfl (by omega))<|Drw.ya rfl rfl rfl I.ctx (Y.moveI rfl)<|Drw.ya rfl rfl rfl I.ctx (Y.sm underlying9 rfl rfl (by omega))<|I.z rfl (Y.idx1 underlying172 sizeOf5 rfl rfl (by omega))<|Drw.z rfl rfl rfl rfl (X.storeV I 0 (bv _) sizeOf5 rfl rfl rfl rfl (by simp only [Ao, List.length_set, Bc]; omega) (Dz _ _ _) rfl fun _ I => ?_); refine Drw.zy rfl rfl rfl rfl I.ctx (Y.idx1 underlying172 sizeOf5 rfl rfl (by omega))<|Drw.z rfl rfl rfl rfl (X.storeV I 0 (bv _) sizeOf5 rfl rfl rfl rfl (by simp only [Ao, List.length_set, Bc]; omega) (Dz _ _ _) rfl fun _ I => ?_); refine Dd<|Wr O<|I.u O O<|I.y O (Y.subI O O (by omega))<|I.a O O<|Od O<|?_; have hq : t4 (Lt s) = ⟨Mf (Mf s.cs ((s.n : Int) - 1) ((s.n : Int) - 2) (s.u % 4294967296 % 10000 % 100 * 2)) ((s.n : Int) - 3) ((s.n : Int) - 4) (s.u % 4294967296 % 10000 / 100 * 2), s.n - 4, s.u % 4294967296 / 10000⟩ := if_pos (by dsimp only [Lt]; omega); refine ⟨⟨_, s.n - 4, s.u % 4294967296 / 10000⟩, ⟨?_, O, trivial⟩, ⟨O, trivial⟩, ⟨hq.symm, by dsimp only; rw [Bc, Bc]; exact hsl, by dsimp only; omega, by dsimp only; omega, by dsimp only; omega⟩, I⟩; exact congrArg (Value.int .i64) (show (s.n : Int) - 4 = ((s.n - 4 : Nat) : Int) by omega)
  ·replace hb20 := dT hb20; refine Wt O O<|Wk O<|Wb O<|Wq O<|?_; obtain ⟨f', hf', e8⟩ := Ad6 (f := f) (s := s) (by omega) (by omega); refine Wr O<|I.u O O<|I.y O (Y.remI O O (by omega))<|I.y O (Y.conv32 underlying199 underlying192 O)<|I.a O O<|Ds O O<|I.u O O<|I.y O (Y.quo64 O O (by omega))<|I.a O O<|Ds O O<|I.u O O<|I.y O (Y.quo32 O O (by omega))<|I.u O O<|I.y O (Y.remI O O (by omega))<|I.a O O<|I.a O O<|Ds O O<|I.u O O<|I.y O (Y.quo32 O O (by omega))<|I.y O (Y.mul32 O O (by omega))<|I.u O O<|I.y O (Y.remI O O (by omega))<|I.y O (Y.mul32 O O (by omega))<|I.a O O<|I.a O O<|Ds O O<|I.u O O<|I.y O (Y.quo32 O O (by omega))<|I.y O (Y.mul32 O O (by omega))<|I.u O O<|I.y O (Y.remI O O (by omega))<|I.y O (Y.mul32 O O (by omega))<|I.a O O<|I.a O O<|Od O<|Wq O<|W.drawn O (by kernel_rfl) (Ctx _ _ (_) (_)) [12, 13, 14] (.op 0 0 (.op 1 0 (.op 2 0 (.op 3 2 (.op 4 2 (.op 5 2 (.op 6 0 (.op 7 0 (.op 8 0 (.op 9 2 (.op 10 2 (.op 11 0 (.op 12 1 (.op 13 1 (.op 14 1 .nil))))))))))))))) O (by kernel_rfl) I.drew.ctx<|?_; replace I := I.drew; generalize World.drew _ = wd at I ⊢; refine I.zs rfl rfl<|I.zu rfl rfl<|I.z rfl (Y.subI rfl rfl (by omega))<|Drw.ya rfl rfl rfl I.ctx (Y.moveS rfl)<|Drw.ya rfl rfl rfl I.ctx (Y.moveI rfl)<|Drw.ya rfl rfl rfl I.ctx (Y.subI rfl rfl (by omega))<|I.zu rfl rfl<|I.z rfl (Y.add32 rfl rfl (by omega))<|I.z rfl (Y.sm underlying9 rfl rfl (by omega))<|Drw.ya rfl rfl rfl I.ctx (Y.moveI rfl)<|Drw.ya rfl rfl rfl I.ctx (Y.sm underlying9 rfl rfl (by omega))<|I.z rfl (Y.idx1 underlying172 sizeOf5 rfl rfl (by omega))<|Drw.z rfl rfl rfl rfl (X.storeV I 0 (bv _) sizeOf5 rfl rfl rfl rfl (by simp only [Ao, List.length_set, Bc]; omega) (Dz _ _ _) rfl fun _ I => ?_); refine Drw.zy rfl rfl rfl rfl I.ctx (Y.idx1 underlying172 sizeOf5 rfl rfl (by omega))<|Drw.z rfl rfl rfl rfl (X.storeV I 0 (bv _) sizeOf5 rfl rfl rfl rfl (by simp only [Ao, List.length_set, Bc]; omega) (Dz _ _ _) rfl fun _ I => ?_); refine Dd<|Wq O<|W.drawn O (by kernel_rfl) (Ctx _ _ (_) (_)) [12, 13, 14] (.op 0 0 (.op 1 0 (.op 2 0 (.op 3 2 (.op 4 2 (.op 5 2 (.op 6 0 (.op 7 0 (.op 8 0 (.op 9 2 (.op 10 2 (.op 11 0 (.op 12 1 (.op 13 1 (.op 14 1 .nil))))))))))))))) O (by kernel_rfl) I.drew.ctx<|?_; replace I := I.drew; generalize World.drew _ = wd at I ⊢; refine I.zs rfl rfl<|I.zu rfl rfl<|I.z rfl (Y.subI rfl rfl (by omega))<|Drw.ya rfl rfl rfl I.ctx (Y.moveS rfl)<|Drw.ya rfl rfl rfl I.ctx (Y.moveI rfl)<|Drw.ya rfl rfl rfl I.ctx (Y.subI rfl rfl (by omega))<|I.zu rfl rfl<|I.z rfl (Y.add32 rfl rfl (by omega))<|I.z rfl (Y.sm underlying9 rfl rfl (by omega))<|Drw.ya rfl rfl rfl I.ctx (Y.moveI rfl)<|Drw.ya rfl rfl rfl I.ctx (Y.sm underlying9 rfl rfl (by omega))<|I.z rfl (Y.idx1 underlying172 sizeOf5 rfl rfl (by omega))<|Drw.z rfl rfl rfl rfl (X.storeV I 0 (bv _) sizeOf5 rfl rfl rfl rfl (by simp only [Ao, List.length_set, Bc]; omega) (Dz _ _ _) rfl fun _ I => ?_); refine Drw.zy rfl rfl rfl rfl I.ctx (Y.idx1 underlying172 sizeOf5 rfl rfl (by omega))<|Drw.z rfl rfl rfl rfl (X.storeV I 0 (bv _) sizeOf5 rfl rfl rfl rfl (by simp only [Ao, List.length_set, Bc]; omega) (Dz _ _ _) rfl fun _ I => ?_); refine Dd<|Wq O<|W.drawn O (by kernel_rfl) (Ctx _ _ (_) (_)) [12, 13, 14] (.op 0 0 (.op 1 0 (.op 2 0 (.op 3 2 (.op 4 2 (.op 5 2 (.op 6 0 (.op 7 0 (.op 8 0 (.op 9 2 (.op 10 2 (.op 11 0 (.op 12 1 (.op 13 1 (.op 14 1 .nil))))))))))))))) O (by kernel_rfl) I.drew.ctx<|?_; replace I := I.drew; generalize World.drew _ = wd at I ⊢; refine I.zs rfl rfl<|I.zu rfl rfl<|I.z rfl (Y.subI rfl rfl (by omega))<|Drw.ya rfl rfl rfl I.ctx (Y.moveS rfl)<|Drw.ya rfl rfl rfl I.ctx (Y.moveI rfl)<|Drw.ya rfl rfl rfl I.ctx (Y.subI rfl rfl (by omega))<|I.zu rfl rfl<|I.z rfl (Y.add32 rfl rfl (by omega))<|I.z rfl (Y.sm underlying9 rfl rfl (by omega))<|Drw.ya rfl rfl rfl I.ctx (Y.moveI rfl)<|Drw.ya rfl rfl rfl I.ctx (Y.sm underlying9 rfl rfl (by omega))<|I.z rfl (Y.idx1 underlying172 sizeOf5 rfl rfl (by omega))<|Drw.z rfl rfl rfl rfl (X.storeV I 0 (bv _) sizeOf5 rfl rfl rfl rfl (by simp only [Ao, List.length_set, Bc]; omega) (Dz _ _ _) rfl fun _ I => ?_); refine Drw.zy rfl rfl rfl rfl I.ctx (Y.idx1 underlying172 sizeOf5 rfl rfl (by omega))<|Drw.z rfl rfl rfl rfl (X.storeV I 0 (bv _) sizeOf5 rfl rfl rfl rfl (by simp only [Ao, List.length_set, Bc]; omega) (Dz _ _ _) rfl fun _ I => ?_); refine Dd<|Wq O<|W.drawn O (by kernel_rfl) (Ctx _ _ (_) (_)) [12, 13, 14] (.op 0 0 (.op 1 0 (.op 2 0 (.op 3 2 (.op 4 2 (.op 5 2 (.op 6 0 (.op 7 0 (.op 8 0 (.op 9 2 (.op 10 2 (.op 11 0 (.op 12 1 (.op 13 1 (.op 14 1 .nil))))))))))))))) O (by kernel_rfl) I.drew.ctx<|?_; replace I := I.drew; generalize World.drew _ = wd at I ⊢; refine I.zs rfl rfl<|I.zu rfl rfl<|I.z rfl (Y.subI rfl rfl (by omega))<|Drw.ya rfl rfl rfl I.ctx (Y.moveS rfl)<|Drw.ya rfl rfl rfl I.ctx (Y.moveI rfl)<|Drw.ya rfl rfl rfl I.ctx (Y.subI rfl rfl (by omega))<|I.zu rfl rfl<|I.z rfl (Y.add32 rfl rfl (by omega))<|I.z rfl (Y.sm underlying9 rfl rfl (by omega))<|Drw.ya rfl rfl rfl I.ctx (Y.moveI rfl)<|Drw.ya rfl rfl rfl I.ctx (Y.sm underlying9 rfl rfl (by omega))<|I.z rfl (Y.idx1 underlying172 sizeOf5 rfl rfl (by omega))<|Drw.z rfl rfl rfl rfl (X.storeV I 0 (bv _) sizeOf5 rfl rfl rfl rfl (by simp only [Ao, List.length_set, Bc]; omega) (Dz _ _ _) rfl fun _ I => ?_); refine Drw.zy rfl rfl rfl rfl I.ctx (Y.idx1 underlying172 sizeOf5 rfl rfl (by omega))<|Drw.z rfl rfl rfl rfl (X.storeV I 0 (bv _) sizeOf5 rfl rfl rfl rfl (by simp only [Ao, List.length_set, Bc]; omega) (Dz _ _ _) rfl fun _ I => ?_); refine Dd<|Wr O<|I.u O O<|I.y O (Y.subI O O (by omega))<|I.a O O<|Od O<|?_; refine ⟨Ti s, ⟨?_, O, trivial⟩, ⟨O, trivial⟩, ⟨⟨f', ⟨by rw [← e8]; exact hl, by rw [Pf]; exact hsl⟩, by dsimp only [Ti]; omega, by dsimp only [Ti]; omega, by dsimp only [Ti]; omega, by dsimp only [Ti]; omega⟩, I⟩, by dsimp only [Ti]; omega⟩; exact congrArg (Value.int .i64) (show (s.n : Int) - 8 = ((s.n - 8 : Nat) : Int) by omega)
end
end Go.Proofs.YtaanjifekgfemaaGreat.Cl
namespace Go.Proofs.YtaanjifekgfemaaGreat.K
section
open Tryz Go.RowKit
section
variable {P : Program} {n : Fr} {c : Code} {Q : Ez} {ρ : Env} {w0 w : World} {F0 : List Nat} {L G : List Res} {S : World → Prop} {ty t t' : TypeId} {x y z : Operand}
theorem Y.neg64 {m : Int} (hx : ev ρ x = .int .u64 m) : Y P S ρ (.unOp .neg t x) ty (.int .u64 ((- m) % 18446744073709551616)) := fun w _ o ho _ => by
 have : IntKind.u64.wrap (0 - m) = (- m) % 18446744073709551616 := by rw [IntKind.wrap_u64]; congr 1; omega
 simp [execOp, ho, hx, Op.unary, Op.intArith]; simpa using this
theorem Y.conv64 {m : Int} (ht : P.underlying t' = some (.int .u64)) {d : TypeDesc} (hs : P.underlying t = some d) (hx : ev ρ x = .int .i64 m) : Y P S ρ (.convert t t' x) ty (.int .u64 (m % 18446744073709551616)) := by
 have h := Y.conv (S := S) (ty := ty) ht hs hx; rwa [IntKind.wrap_u64] at h
theorem Y.sliceA1 {e : TypeId} {len : Nat} (ht : P.underlying t = some (.array len e)) (hs : ∀ w, (sizeOf e).run P w = .ok 1 w) {b : Nat} (hx : ev ρ x = .pointer (some ⟨b, 0, none⟩)) (hy : ev ρ y = .int .i64 1) {ki : IntKind} {h : Int} (hz : ev ρ z = .int ki h) {m : Nat} (hm : h = 1 + (m : Int)) (hb : 1 + m ≤ len) (h1 : 1 < len) :
  Y P S ρ (.slice t x (some y) (some z) none) ty (.slice (some ⟨b, 1, none⟩) m (len - 1)) := fun w _ o ho _ => by
 subst hm; have hl : P.arrayLen t = len := by simp [Program.arrayLen, ht]
 have he : P.elem t = e := by simp [Program.elem, ht]
 have h := run_sliceAt_array_lh (P := P) w t ⟨b, 0, none⟩ (by rw [hl, he]; exact ht) .i64 ki 1 (1 + (m : Int)) (by omega) (by omega) (by rw [hl]; omega); rw [hl, he, hs] at h
 have e2 : slicedAt ⟨b, 0, none⟩ (1 : Int).toNat (1 + (m : Int)).toNat len 1 = .slice (some ⟨b, 1, none⟩) m (len - 1) := by
  unfold slicedAt; rw [show (1 : Int).toNat = 1 from rfl, if_neg (by omega), show (1 + (m : Int)).toNat - 1 = m by omega, B6]
 rw [Result.andThen_ok, e2] at h; simp [execOp, ho, hx, hy, hz, h]
theorem Y.sliceA0 {e : TypeId} {len : Nat} (ht : P.underlying t = some (.array len e)) (hs : ∀ w, (sizeOf e).run P w = .ok 1 w) {b : Nat} (hx : ev ρ x = .pointer (some ⟨b, 0, none⟩)) {ki : IntKind} {h : Int} (hz : ev ρ z = .int ki h) {m : Nat} (hm : h = (m : Int)) (hb : m ≤ len) (h1 : 1 < len) :
  Y P S ρ (.slice t x none (some z) none) ty (.slice (some ⟨b, 0, none⟩) m len) := fun w _ o ho _ => by
 subst hm; have hl : P.arrayLen t = len := by simp [Program.arrayLen, ht]
 have he : P.elem t = e := by simp [Program.elem, ht]
 have h := run_sliceAt_array_h (P := P) w t ⟨b, 0, none⟩ (by rw [hl, he]; exact ht) ki (m : Int) (by omega) (by rw [hl]; omega); rw [hl, he, hs] at h
 have e2 : slicedAt ⟨b, 0, none⟩ 0 (m : Int).toNat len 1 = .slice (some ⟨b, 0, none⟩) m len := by
  unfold slicedAt; rw [if_neg (by omega), B6]; simp
 rw [Result.andThen_ok, e2] at h; simp [execOp, ho, hx, hz, h]
theorem Rds.part (j : Nat) {b : Nat} {cs xs : List Value} {e : TypeId} (h : L[j]? = some (Aa b cs e)) {off k cp : Nat} (hk : k ≤ cp) (hx : ∀ i, i < xs.length → cs[off + i]? = xs[i]?) : Rds L G (.slice (some ⟨b, off, none⟩) k cp) k xs :=
 ⟨Aa b cs e, .inl (List.mem_of_getElem? h), fun w hw => ⟨_, _, rfl, hk, fun _ => ⟨_, rfl, fun i hi => by
  rw [B6, Fg hw]; exact hx i hi⟩⟩⟩
theorem Rds.partB (j : Nat) {b : Nat} {l : List UInt8} {e : TypeId} (h : L[j]? = some (Aa b (bvs l) e)) {off k cp : Nat} (hk : k ≤ cp) (hl : off + k ≤ l.length) : Rds L G (.slice (some ⟨b, off, none⟩) k cp) k (bvs ((l.drop off).take k)) :=
 Rds.part j h hk fun i hi => by
  unfold bvs at hi ⊢; rw [List.length_map, List.length_take, List.length_drop] at hi; rw [List.getElem?_map, List.getElem?_map, List.getElem?_take, if_pos (by omega), List.getElem?_drop]
def Gw (tbl : List Int) : Res := slR (.slice (some ⟨2, 0, none⟩) 20 20) 20 (tbl.map fun x => .int .u64 x)
theorem Y.loadPow {tbl : List Int} (hag : ∀ w, (isAgg t).run P w = .ok false w) (hm : Gw tbl ∈ G) {i : Nat} (hx : ev ρ x = .pointer (some ⟨2, i, none⟩)) (hi : i < tbl.length) : Y P (Ctx w0 F0 L G) ρ (.load t x) ty (.int .u64 (tbl.getD i 0)) :=
 Y.loadAt hx fun w hS => C0 hag (by
  have hr : Rds L G (.slice (some ⟨2, 0, none⟩) 20 20) 20 (tbl.map fun x => .int .u64 x) := Rds.ofG hm; obtain ⟨A, cap, he, _, hA⟩ := hS.sl hr; injection he with he; subst he; obtain ⟨ad, had, hc⟩ := hA (by intro h; rw [List.map_eq_nil_iff] at h; subst h; simp at hi); injection had with had; subst had; have := hc i (by simpa using hi); rw [B6, Nat.zero_add] at this; rw [this]
  simp [hi])
theorem Y.sliceData {ts : Array TypeId} {b m cp : Nat} (hx : ev ρ x = .slice (some ⟨b, 0, none⟩) m cp) (hc : cp ≠ 0) : Y P S ρ (.call { callee := .builtin .unsafeSliceData, args := #[x], argTypes := ts }) ty (.pointer (some ⟨b, 0, none⟩)) := fun w _ o ho hty => by
 have h := Lib.run_unsafeSliceData_row (P := P) (w := w) ts ty ⟨b, 0, none⟩ m cp hc; simp [execOp, ho, resolve, invoke, builtin, hx, hty, h]
theorem Y.sliceDataN {ts : Array TypeId} {m cp : Nat} (hx : ev ρ x = .slice none m cp) : Y P S ρ (.call { callee := .builtin .unsafeSliceData, args := #[x], argTypes := ts }) ty (.pointer none) := fun w _ o ho hty => by
 have h := Lib.run_unsafeSliceData_nil (P := P) (w := w) ts ty m cp; simp [execOp, ho, resolve, invoke, builtin, hx, hty, h]
theorem X.unsafeStrN (I : St w0 F0 w L G) {pt it : TypeId} {p : Option Addr} (hx : ev ρ x = .pointer p) (hy : ev ρ y = .int .i64 0) {K : Value → World → Prop} (k : ∀ w', St w0 F0 w' L G → K (.string ⟨#[]⟩) w') : X P ρ w (.call { callee := .builtin .unsafeString, args := #[x, y], argTypes := #[pt, it] }) ty K := by
 intro a ops Q o ho hty ha hw; have h := Lib.run_unsafeString_none (P := P) (w := w) pt it ty p; refine wpl hw (v := .string ⟨#[]⟩) (w' := w) ?_ ⟨_, O, k w I⟩; rw [ha]; simp only [execOp, ho]; simp only [resolve, invoke, builtin, hx, hy, hty]; simp [builtin, hx, hy, h]; rfl
theorem X.unsafeStr (I : St w0 F0 w L G) (j : Nat) {pt it e : TypeId} (hp : P.underlying pt = some (.pointer e)) (hc : P.cellsOf e = 1) {b m cp : Nat} {l : List UInt8} (hx : ev ρ x = .pointer (some ⟨b, 0, none⟩)) (hy : ev ρ y = .int .i64 (m : Int)) (hL : L[j]? = some (Af (.slice (some ⟨b, 0, none⟩) m cp) e 1 m (bvs l))) (h0 : 0 < m) (hb : m ≤ 140737488355328) {K : Value → World → Prop}
  (k : ∀ w', St w0 F0 w' (L.eraseIdx j) G → K (.string (str l)) w') : X P ρ w (.call { callee := .builtin .unsafeString, args := #[x, y], argTypes := #[pt, it] }) ty K := by
 obtain ⟨cur, hg, hm, hcp, hl, hxs, hxl⟩ := Jr (I.res _ (List.mem_of_getElem? hL)); have hll : l.length = m := by rw [Ao, Nat.mul_one] at hxl; exact hxl
 intro a ops Q o ho hty ha hw; have hsh : w.shape? b = some (e, cur.length) := by simp [World.shape?, hg]
 have h := Lib.run_unsafeString_row (P := P) (w := w) pt it ty e hp hc b cur.length hsh l (by intro h; subst h; simp at hll; omega) (by omega) (by omega) (by
  intro j' u hu; rw [B6, Nat.zero_add]; have hj : j' < m := by rw [← hll]; exact (List.getElem?_eq_some_iff.1 hu).1
  have h3 : (bvs l)[j']? = some (bv u) := by unfold bvs; rw [List.getElem?_map, hu]; rfl
  rw [← hxs, List.getElem?_take, if_pos (by omega)] at h3
  simp [World.cell?, hg, h3, bv])
 rw [hll] at h; refine wpl hw (v := .string (str l)) (w' := w.freeze ⟨b, 0, none⟩ m) ?_ ⟨_, O, k _ ?_⟩
 ·rw [ha]; simp only [execOp, ho]; simp only [resolve, invoke, builtin, hx, hy, hty]; simp [builtin, hx, hy, h]; rfl
 ·have hpm := I.perm (Hg hL); refine St.step (w' := w.freeze ⟨b, 0, none⟩ m) (L1 := [Af (.slice (some ⟨b, 0, none⟩) m cp) e 1 m (bvs l)]) (L2 := []) hpm ?_ ?_ ?_ ?_ ?_ (by simp) (by simp) (by simp)
  ·unfold World.freeze; split <;> rfl
  ·unfold World.freeze; split <;> rfl
  ·unfold World.freeze; split <;> rfl
  ·unfold World.freeze; split <;> simp
  ·intro b' hb' hn; have hne : b ≠ b' := by intro e; subst e; simp [Ch] at hn
   unfold World.freeze; split
   ·rfl
   ·simp only [Array.getElem?_modify]; rw [if_neg hne]
end
end
end Go.Proofs.YtaanjifekgfemaaGreat.K
namespace Go.Proofs.YtaanjifekgfemaaGreat.Cl
section
open Tryz Go.RowKit YtaanjifekgfemaaGreat.K YtaanjifekgfemaaGreat.W
attribute [local irreducible] Bg Ak Bb sub neg mag Da mul Dy
theorem Bw6 : CF 98 := fun _ _ => by simp [go_sem]
theorem Bqx : CF 201 := fun _ _ => by simp [go_sem]
theorem Bqz : CF 203 := fun _ _ => by simp [go_sem]
theorem Br0 : CF 204 := fun _ _ => by simp [go_sem]
theorem Bh7 : CF 205 := fun _ _ => by simp [go_sem]
theorem Bh8 : CF 206 := fun _ _ => by simp [go_sem]
theorem Br1 : CF 208 := fun _ _ => by simp [go_sem]
theorem Br2 : CF 209 := fun _ _ => by simp [go_sem]
open Go (Lib.bitLen Lib.l10 Lib.decDigits)
theorem Apx (x : Int) (h0 : 0 ≤ x) (h1 : x ≤ 18446744073709551615) (w0 w : World) (F0 : List Nat) (L G : List Res) (I : St w0 F0 w L G) : Calls Tryz.prog 98 #[.int .u64 x] w fun e w' => e = .returned (.int .i64 ((Lib.bitLen x.toNat : Nat) : Int)) ∧ St w0 F0 w' L G :=
 (Tryz.bits_Len64 x w h0 h1).mono fun e w' ⟨h1, h2⟩ => ⟨h1, by rw [h2]; exact I⟩
theorem Bc9 (x : Nat) (h : x ≤ 64) (w0 w : World) (F0 : List Nat) (L G : List Res) (I : St w0 F0 w L G) : Calls Tryz.prog 208 #[.int .i64 (x : Int)] w fun e w' => e = .returned (.int .i64 ((Lib.l10 x : Nat) : Int)) ∧ St w0 F0 w' L G :=
 (Tryz.internal_strconv_log10Pow2 x h w).mono fun e w' ⟨h1, h2⟩ => ⟨h1, by rw [h2]; exact I⟩
theorem An1 (b : Bool) (w0 w : World) (F0 : List Nat) (L G : List Res) (I : St w0 F0 w L G) : Calls Tryz.prog 209 #[.bool b] w fun e w' => e = .returned (.int .i64 (match b with | true => 1 | false => 0)) ∧ St w0 F0 w' L G :=
 (Tryz.internal_strconv_bool2_int b w).mono fun e w' ⟨h1, h2⟩ => ⟨by rw [h1]; cases b <;> rfl, by rw [h2]; exact I⟩
theorem Asx (i : Nat) (h : i < 100) (w0 w : World) (F0 : List Nat) (L G : List Res) (I : St w0 F0 w L G) : Calls Tryz.prog 204 #[.int .i64 (i : Int)] w fun e w' => e = .returned (.string (str (Lib.decDigits i))) ∧ St w0 F0 w' L G :=
 (Tryz.internal_strconv_small i h w).mono fun e w' ⟨h1, h2⟩ => ⟨h1, by rw [h2]; exact I⟩
def nd0 (u : Int) : Nat := Lib.l10 (Lib.bitLen u.toNat)
def Jp (tbl : List Int) (u : Int) : Nat := nd0 u + if u ≥ tbl.getD (nd0 u) 0 then 1 else 0
theorem Xf {u : Int} (h : 0 ≤ u ∧ u ≤ 18446744073709551615) : Lib.bitLen u.toNat ≤ 64 := by
 have h2 : (2 : Nat) ^ 64 = 18446744073709551616 := by decide
 exact Lib.bitLen_le _ 64 (Nat.le_refl _) (by omega)
theorem Bl4 : ∀ L : Fin 65, Lib.l10 L.val ≤ 19 := by decide +kernel
theorem A13 {u : Int} (h : 0 ≤ u ∧ u ≤ 18446744073709551615) : nd0 u ≤ 19 := Bl4 ⟨_, Nat.lt_succ_of_le (Xf h)⟩
theorem Aj9 {tbl : List Int} {u : Int} (h : 0 ≤ u ∧ u ≤ 18446744073709551615) : Jp tbl u ≤ 20 := by
 have := A13 h; unfold Jp; split <;> omega
def z24 : List UInt8 := List.replicate 24 0
def G8 (tbl : List Int) (n : Int) : List UInt8 :=
  if 0 ≤ n ∧ n < 100 then Lib.decDigits n.toNat
  else if n < 0 then (((Jh z24 (Jp tbl (-n)) (-n)).set 0 45).drop 0).take (1 + Jp tbl (-n))
  else ((Jh z24 (Jp tbl n) n).drop 1).take (Jp tbl n)
theorem Bjq : ∀ i : Fin 100, (Lib.decDigits i.val).length ≤ 2 := by decide +kernel
theorem Na (tbl : List Int) {n : Int} (h : Bz n) : (G8 tbl n).length ≤ 24 := by
 unfold G8; split
 ·rename_i h1; exact Nat.le_trans (Bjq ⟨n.toNat, by omega⟩) (by decide)
 ·split
  ·rw [List.length_take, List.length_drop, List.length_set, D9]; simp [z24]; omega
  ·rw [List.length_take, List.length_drop, D9]; simp [z24]; omega
theorem Yo (tbl : List Int) (htl : tbl.length = 20) (u : Int) (hu : 0 ≤ u ∧ u ≤ 18446744073709551615) (w0 w : World) (F0 : List Nat) (L G : List Res) (I : St w0 F0 w L G) (hpw : Gw tbl ∈ G) :
  Calls Tryz.prog 205 #[.int .u64 u] w fun e w' => e = .returned (.int .i64 ((Jp tbl u : Nat) : Int)) ∧ St w0 F0 w' L G := by
 have h64 := Xf hu; have h19 := A13 hu; refine W.func func205 rfl ntmps205 rfl<|Wh rfl<|I.a rfl rfl<|Ds rfl rfl<|I.u rfl rfl<|Ow rfl (X.ret Bw6 (Apx u hu.1 hu.2 _ _ _ _ _ I) rfl fun _ I => Ow rfl (X.ret Br1 (Bc9 _ h64 _ _ _ _ _ I) rfl fun _ I => I.y rfl (Y.assignV (v := .int .i64 ((nd0 u : Nat) : Int)) rfl)<|Ds rfl rfl<|I.u rfl rfl<|I.u rfl rfl<|I.u rfl rfl<|I.y rfl (Y.indexAddrA underlying321 sizeOf192 (b := 2) (j := 0) rfl rfl (by omega))<|I.y rfl (Y.loadPow isAgg192 hpw rfl (by omega))<|I.W rfl rfl rfl (fun b12 hb12 => Ow rfl (X.ret Br2 (An1 b12 _ _ _ _ _ I) rfl fun _ I => I.y rfl (Y.addI rfl rfl (by cases b12 <;> dsimp only <;> omega))<|?_)))); refine I.a O O<|Od O<|We O<|⟨_, Ac.one results205 O, ?_⟩; have hi : 0 + ((nd0 u : Nat) : Int).toNat * 1 = nd0 u := by omega
 rw [hi] at hb12; refine ⟨congrArg (fun z => Ending.returned (.int .i64 z)) ?_, I⟩; unfold Jp
 by_cases hc : u ≥ tbl.getD (nd0 u) 0
 ·rw [decide_eq_true hc] at hb12; subst hb12; rw [if_pos hc]; rfl
 ·rw [decide_eq_false hc] at hb12; subst hb12; rw [if_neg hc]; rfl
set_option maxHeartbeats 1000000 in
theorem Axz (tbl : List Int) (htl : tbl.length = 20) (i : Nat) (hi : i < 100) (w0 w : World) (F0 : List Nat) (L G : List Res) (I : St w0 F0 w L G) (hpw : Gw tbl ∈ G) :
  Calls Tryz.prog 203 #[.int .i64 (i : Int), .int .i64 10] w fun e w' => e = .returned (.string (str (Lib.decDigits i))) ∧ St w0 F0 w' L G := by
 refine W.func func203 O ntmps203 O<|Wh O<|I.y O (Y.assignT O)<|Od O<|Wq O<|Wh O<|I.u O O<|I.Y O O O (fun b11 hb11 => Od O<|?_); cases b11
 ·replace hb11 := dF hb11; exact absurd O hb11
 ·replace hb11 := dT hb11; refine Wt O O<|Wq O<|Wh O<|I.u O O<|I.X O O O (fun b13 hb13 => I.b O O<|?_); cases b13
  ·replace hb13 := dF hb13; exfalso; omega
  ·replace hb13 := dT hb13; refine I.u O O<|I.v O O O (fun b16 hb16 => I.k O O O<|Od O<|?_); cases b16
   ·replace hb16 := dF hb16; exfalso; omega
   ·replace hb16 := dT hb16; refine Wt O O<|Wh O<|I.u O O<|Ow O (X.ret Br0 (Asx i hi _ _ _ _ _ I) O fun _ I => I.y O (Y.assignT O)<|Od O<|We O<|⟨_, Ac.one results203 O, ?_⟩); exact ⟨O, I⟩
set_option maxHeartbeats 1000000 in
theorem Bk9 (tbl : List Int) (htl : tbl.length = 20) (n : Int) (hn : Bz n) (h0 : n < 0) (w0 w : World) (F0 : List Nat) (L G : List Res) (I : St w0 F0 w L G) (hpw : Gw tbl ∈ G) :
  Calls Tryz.prog 203 #[.int .i64 n, .int .i64 10] w fun e w' => e = .returned (.string (str ((((Jh z24 (Jp tbl (-n)) (-n)).set 0 45).drop 0).take (1 + Jp tbl (-n))))) ∧ St w0 F0 w' L G := by
 unfold Bz at hn; have hu : 0 ≤ -n ∧ -n ≤ 18446744073709551615 := by omega
 have h20 := Aj9 (tbl := tbl) hu; refine W.func func203 O ntmps203 O<|Wh O<|I.y O (Y.assignT O)<|Od O<|Wq O<|Wh O<|I.u O O<|I.Y O O O (fun b11 hb11 => Od O<|?_); cases b11
 ·replace hb11 := dF hb11; exact absurd O hb11
 ·replace hb11 := dT hb11; refine Wt O O<|Wq O<|Wh O<|I.u O O<|I.X O O O (fun b13 hb13 => I.b O O<|?_); cases b13
  ·replace hb13 := dF hb13; refine On O<|On O<|I.k O O O<|Od O<|Wu O O<|Wk O<|Wh O<|Ow O (X.allocA I zeroValue317 fun p5 w5 I => ?_); replace I : St w0 F0 w5 (Aa p5 (bvs (z24)) 317 :: L) G := I; refine Ds O O<|I.u O O<|I.y O (Y.conv64 underlying192 underlying2 O)<|I.a O O<|Od O<|Wq O<|Wh O<|I.u O O<|I.v O O O (fun b23 hb23 => Od O<|?_); refine W.cut [(0, .int _ _), (5, .pointer _)] (fun _ : Unit => [(6, .int .u64 (-n))]) (fun _ w => St w0 F0 w (Aa p5 (bvs (z24)) 317 :: L) G) ⟨O, O, trivial⟩ ?_ ?_
   rotate_left
   ·clear I; rintro _ j w6 I; refine Wh O<|I.u O O<|Ow O (X.ret Bh7 (Yo tbl htl (-n) hu _ _ _ _ _ I hpw) O fun _ I => I.a O O<|Ds O O<|I.u O O<|I.j O O O (by omega)<|I.y O (Y.sliceA1 underlying317 sizeOf5 O O O (m := Jp tbl (-n)) O (by omega) (by decide))<|?_); refine I.u O O<|Ow O (X.ret Bh8 (Ai2 p5 317 z24 O (Jp tbl (-n)) (by omega) _ (-n) hu _ _ _ _ _ I) O fun _ I => Od O<|Wq O<|Wh O<|I.u O O<|I.v O O O (fun b34 hb34 => Od O<|?_)); cases b34
    ·replace hb34 := dF hb34; exfalso; omega
    ·replace hb34 := dT hb34; refine Wt rfl rfl<|Wh rfl<|I.y rfl (Y.indexAddrA underlying317 sizeOf5 rfl rfl (by omega))<|Ow rfl (X.storeV I 0 (bv 45) sizeOf5 rfl rfl rfl rfl (by rw [Ao, D9]; decide) (Dz _ _ _) rfl fun _ I => ?_); refine Ds O O<|I.u O O<|I.j O O O (by omega)<|I.y O (Y.sliceA0 underlying317 sizeOf5 O O (m := 1 + Jp tbl (-n)) (by omega) (by omega) (by decide))<|?_; refine I.y rfl (Y.str underlying172 underlying5 underlying9 rfl (Rds.partB (l := (Jh z24 (Jp tbl (-n)) (-n)).set 0 45) 0 rfl (by omega) (by rw [List.length_set, D9]; simp [z24]; omega)) (by rw [List.length_take, List.length_drop, List.length_set, D9]; simp [z24]; omega)) ?_; refine I.y O (Y.assignT O)<|Od O<|We O<|⟨_, Ac.one results203 O, ?_⟩; exact ⟨O, (I.dr 1)⟩
   cases b23
   ·replace hb23 := dF hb23; exfalso; omega
   ·replace hb23 := dT hb23; refine Wt O O<|Wr O<|I.u O O<|I.y O (Y.neg64 O)<|I.a O O<|Od O<|?_; exact ⟨(), ⟨congrArg (Value.int .u64) (show (- (n % 18446744073709551616)) % 18446744073709551616 = (-n) by omega), trivial⟩, ⟨O, O, trivial⟩, I⟩
  ·replace hb13 := dT hb13; exfalso; omega
set_option maxHeartbeats 1000000 in
theorem Bk8 (tbl : List Int) (htl : tbl.length = 20) (n : Int) (hn : Bz n) (h0 : 100 ≤ n) (w0 w : World) (F0 : List Nat) (L G : List Res) (I : St w0 F0 w L G) (hpw : Gw tbl ∈ G) :
  Calls Tryz.prog 203 #[.int .i64 n, .int .i64 10] w fun e w' => e = .returned (.string (str (((Jh z24 (Jp tbl n) n).drop 1).take (Jp tbl n)))) ∧ St w0 F0 w' L G := by
 unfold Bz at hn; have hu : 0 ≤ n ∧ n ≤ 18446744073709551615 := by omega
 have h20 := Aj9 (tbl := tbl) hu; refine W.func func203 O ntmps203 O<|Wh O<|I.y O (Y.assignT O)<|Od O<|Wq O<|Wh O<|I.u O O<|I.Y O O O (fun b11 hb11 => Od O<|?_); cases b11
 ·replace hb11 := dF hb11; exact absurd O hb11
 ·replace hb11 := dT hb11; refine Wt O O<|Wq O<|Wh O<|I.u O O<|I.X O O O (fun b13 hb13 => I.b O O<|?_); cases b13
  ·replace hb13 := dF hb13; exfalso; omega
  ·replace hb13 := dT hb13; refine I.u O O<|I.v O O O (fun b16 hb16 => I.k O O O<|Od O<|?_); cases b16
   ·replace hb16 := dF hb16; refine Wu O O<|Wk O<|Wh O<|Ow O (X.allocA I zeroValue317 fun p5 w5 I => ?_); replace I : St w0 F0 w5 (Aa p5 (bvs (z24)) 317 :: L) G := I; refine Ds O O<|I.u O O<|I.y O (Y.conv64 underlying192 underlying2 O)<|I.a O O<|Od O<|Wq O<|Wh O<|I.u O O<|I.v O O O (fun b23 hb23 => Od O<|?_); refine W.cut [(0, .int _ _), (5, .pointer _)] (fun _ : Unit => [(6, .int .u64 n)]) (fun _ w => St w0 F0 w (Aa p5 (bvs (z24)) 317 :: L) G) ⟨O, O, trivial⟩ ?_ ?_
    rotate_left
    ·clear I; rintro _ j w6 I; refine Wh O<|I.u O O<|Ow O (X.ret Bh7 (Yo tbl htl n hu _ _ _ _ _ I hpw) O fun _ I => I.a O O<|Ds O O<|I.u O O<|I.j O O O (by omega)<|I.y O (Y.sliceA1 underlying317 sizeOf5 O O O (m := Jp tbl n) O (by omega) (by decide))<|?_); refine I.u O O<|Ow O (X.ret Bh8 (Ai2 p5 317 z24 O (Jp tbl n) (by omega) _ n hu _ _ _ _ _ I) O fun _ I => Od O<|Wq O<|Wh O<|I.u O O<|I.v O O O (fun b34 hb34 => Od O<|?_)); cases b34
     ·replace hb34 := dF hb34; refine Wu O O<|Wk O<|Wh O<|I.u O O<|I.j O O O (by omega)<|I.y O (Y.sliceA1 underlying317 sizeOf5 O O O (m := Jp tbl n) O (by omega) (by decide))<|?_; refine I.y rfl (Y.str underlying172 underlying5 underlying9 rfl (Rds.partB (l := Jh z24 (Jp tbl n) n) 0 rfl (by omega) (by rw [D9]; simp [z24]; omega)) (by rw [List.length_take, List.length_drop, D9]; simp [z24]; omega)) ?_; refine I.y O (Y.assignT O)<|Od O<|We O<|⟨_, Ac.one results203 O, ?_⟩; exact ⟨O, (I.dr 1)⟩
     ·replace hb34 := dT hb34; exfalso; omega
    cases b23
    ·replace hb23 := dF hb23; refine Wu O O<|Wk O<|?_; exact ⟨(), ⟨congrArg (Value.int .u64) (show n % 18446744073709551616 = n by omega), trivial⟩, ⟨O, O, trivial⟩, I⟩
    ·replace hb23 := dT hb23; exfalso; omega
   ·replace hb16 := dT hb16; exfalso; omega
set_option maxHeartbeats 1000000 in
theorem Bk7 (tbl : List Int) (htl : tbl.length = 20) (n : Int) (hn : Bz n) (w0 w : World) (F0 : List Nat) (L G : List Res) (I : St w0 F0 w L G) (hpw : Gw tbl ∈ G) :
  Calls Tryz.prog 203 #[.int .i64 n, .int .i64 10] w fun e w' => e = .returned (.string (str (G8 tbl n))) ∧ St w0 F0 w' L G := by
 by_cases h1 : 0 ≤ n ∧ n < 100
 ·have e : G8 tbl n = Lib.decDigits n.toNat := if_pos h1; have := Axz tbl htl n.toNat (by omega) w0 w F0 L G I hpw; rw [show ((n.toNat : Nat) : Int) = n by omega] at this; rw [e]; exact this
 ·by_cases h2 : n < 0
  ·have e : G8 tbl n = _ := (if_neg h1).trans (if_pos h2); rw [e]; exact Bk9 tbl htl n hn h2 w0 w F0 L G I hpw
  ·have e : G8 tbl n = _ := (if_neg h1).trans (if_neg h2); rw [e]; exact Bk8 tbl htl n hn (by omega) w0 w F0 L G I hpw
theorem Bsq (tbl : List Int) (htl : tbl.length = 20) (n : Int) (hn : Bz n) (w0 w : World) (F0 : List Nat) (L G : List Res) (I : St w0 F0 w L G) (hpw : Gw tbl ∈ G) :
  Calls Tryz.prog 201 #[.int .i64 n] w fun e w' => e = .returned (.string (str (G8 tbl n))) ∧ St w0 F0 w' L G := by
 refine W.func func201 O ntmps201 O<|Wh O<|I.y O (Y.assignT O)<|Ds O O<|I.u O O<|Ow O (X.ret Bqz (Bk7 tbl htl n hn _ _ _ _ _ I hpw) O fun _ I => I.y O (Y.assignT O)<|Od O<|We O<|⟨_, Ac.one results201 O, ?_⟩); exact ⟨O, I⟩
theorem X6 (tbl : List Int) (htl : tbl.length = 20) (n : Int) (hn : Bz n) (w0 w : World) (F0 : List Nat) (L G : List Res) (I : St w0 F0 w L G) (hpw : Gw tbl ∈ G) :
  Calls Tryz.prog 195 #[.int .i64 n] w fun e w' => e = .returned (.string (str (G8 tbl n))) ∧ St w0 F0 w' L G := by
 refine W.func func195 O ntmps195 O<|Wh O<|I.y O (Y.assignT O)<|Ds O O<|I.u O O<|Ow O (X.ret Bqx (Bsq tbl htl n hn _ _ _ _ _ I hpw) O fun _ I => I.y O (Y.assignT O)<|Od O<|We O<|⟨_, Ac.one results195 O, ?_⟩); exact ⟨O, I⟩
theorem Bq6 : CF 194 := fun _ _ => by simp [go_sem]
theorem Bh5 : CF 195 := fun _ _ => by simp [go_sem]
theorem Bq7 : CF 196 := fun _ _ => by simp [go_sem]
theorem Zb {w : World} {A : Option Addr} {m cp : Nat} {e : TypeId} {xs : List Value} (h : (Af (.slice A m cp) e 1 m xs).holds w) : (A = none ∧ m = 0 ∧ cp = 0 ∧ xs = []) ∨ ∃ gb, A = some ⟨gb, 0, none⟩ := by
 rcases h.2 with ⟨h1, h2⟩ | ⟨g, cap, cur, h1, _⟩
 ·injection h1 with h1 h3 h4; refine .inl ⟨h1, h2, h4, List.eq_nil_of_length_eq_zero (by have := h.1; omega)⟩
 ·injection h1 with h1 h3 h4; exact .inr ⟨g, h1⟩
theorem No (l : List UInt8) : Go.Lib.strCells (str l) = bvs l := rfl
theorem Pv (b : Nat) (a : Option Addr) (A : Option Addr) (m cp : Nat) (l : List UInt8) (ha : a = none ∨ a = some ⟨b, 0, none⟩) (l' : List UInt8) (h0 : 0 < l'.length) (h48 : m + l'.length ≤ 140737488355328) (w0 w : World) (F0 : List Nat) (L G : List Res) (I : St w0 F0 w (Aa b [.pointer a, .slice A m cp] 307 :: Af (.slice A m cp) 5 1 m (bvs (l)) :: L) G) :
  Calls Tryz.prog 194 #[.pointer (some ⟨b, 0, none⟩), .string (str l')] w fun e w' => ∃ v A' c', e = .returned v ∧ St w0 F0 w' (Aa b [.pointer (some ⟨b, 0, none⟩), .slice A' (m + l'.length) c'] 307 :: Af (.slice A' (m + l'.length) c') 5 1 (m + l'.length) (bvs (l ++ l')) :: L) G := by
 rcases Zb (I.res _ (.tail _ (.head _))) with ⟨rfl, rfl, rfl, hl⟩ | ⟨gb, rfl⟩
 ·obtain rfl : l = [] := by unfold bvs at hl; rwa [List.map_eq_nil_iff] at hl
  refine (Pw b a ha (str l') (by rw [Gx]; exact h0) (by rw [Gx]; omega) _ _ _ _ _ I).mono ?_; rintro e w' ⟨A', c', h1, h2⟩; rw [No, Gx] at h2; exact ⟨_, A', c', h1, by rw [Nat.zero_add]; exact h2⟩
 ·refine (Oz b a ha gb m cp (bvs l) (str l') (by rw [Gx]; exact h48) _ _ _ _ _ I).mono ?_; rintro e w' ⟨A', c', h1, h2⟩; rw [No, Gx] at h2; have e1 : bvs l ++ bvs l' = bvs (l ++ l') := by unfold bvs; rw [List.map_append]
  rw [e1] at h2; exact ⟨_, A', c', h1, h2⟩
theorem Zk (b : Nat) (a : Option Addr) (gb m cp : Nat) (l : List UInt8) (h0 : 0 < m) (hm : m ≤ cp) (hb : m ≤ 140737488355328) (w0 w : World) (F0 : List Nat) (L G : List Res) (I : St w0 F0 w (Aa b [.pointer a, .slice (some ⟨gb, 0, none⟩) m cp] 307 :: Af (.slice (some ⟨gb, 0, none⟩) m cp) 5 1 m (bvs (l)) :: L) G) :
  Calls Tryz.prog 196 #[.pointer (some ⟨b, 0, none⟩)] w fun e w' => e = .returned (.string (str l)) ∧ St w0 F0 w' L G := by
 refine W.func func196 O ntmps196 O<|Wh O<|I.y O (Y.assignT O)<|Od O<|Wq O<|?_; replace I := I.up_1; refine I.dw 1 [] (T0 [0,1,2,3,4,5,6,7,8,9] (.op 10 1 (.op 11 0 .nil))) O (by kernel_rfl) O (by kernel_rfl) fun _ I => ?_; refine Dq O (I.cx 1) (Y.moveP O)<|Dq O (I.cx 1) (Y.nilCheck O)<|Dq O (I.cx 1) (Y.fieldAddr Ii O)<|Dq O (I.cx 1) (Y.load 0 isAgg172 O O O)<|Dq O (I.cx 1) (Y.sliceData O (by omega))<|Dq O (I.cx 1) (Y.moveP O)<|Dq O (I.cx 1) (Y.nilCheck O)<|Dq O (I.cx 1) (Y.fieldAddr Ii O)<|Dq O (I.cx 1) (Y.load 0 isAgg172 O O O)<|Dq O (I.cx 1) (Y.lenS underlying172 O)<|Dw O (X.unsafeStr I 0 underlying221 (by kernel_rfl) O O O h0 hb fun _ I => ⟨St.ctx I, ?_⟩); refine I.z O (Y.assignT O)<|Dd<|We O<|⟨_, Ac.one results196 O, ?_⟩; exact ⟨O, I.dr 1⟩
theorem Af4 (b : Nat) (a : Option Addr) (w0 w : World) (F0 : List Nat) (L G : List Res) (I : St w0 F0 w (Aa b [.pointer a, .slice none 0 0] 307 :: L) G) :
  Calls Tryz.prog 196 #[.pointer (some ⟨b, 0, none⟩)] w fun e w' => e = .returned (.string ⟨#[]⟩) ∧ St w0 F0 w' L G := by
 refine W.func func196 O ntmps196 O<|Wh O<|I.y O (Y.assignT O)<|Od O<|Wq O<|W.drawn O (by kernel_rfl) (Ctx _ _ (_) (_)) [] (.op 0 0 (.op 1 0 (.op 2 0 (.op 3 0 (.op 4 0 (.op 5 0 (.op 6 0 (.op 7 0 (.op 8 0 (.op 9 0 (.op 10 1 (.op 11 0 .nil)))))))))))) O (by kernel_rfl) I.drew.ctx<|?_; replace I := I.drew; generalize World.drew _ = wd at I ⊢; refine I.zp O O<|I.zt O O<|I.zf Ii O O<|I.z O (Y.load 0 isAgg172 O O O)<|I.z O (Y.sliceDataN O)<|I.zp O O<|I.zt O O<|I.zf Ii O O<|I.z O (Y.load 0 isAgg172 O O O)<|I.z O (Y.lenS underlying172 O)<|Dw O (X.unsafeStrN I O O fun _ I => ⟨St.ctx I, I.z O (Y.assignT O)<|Dd<|We O<|⟨_, Ac.one results196 O, ?_⟩⟩); exact ⟨O, I.dr 1⟩
theorem Af3 (b : Nat) (a : Option Addr) (A : Option Addr) (m cp : Nat) (l : List UInt8) (hz : 0 < m ∨ A = none) (hb : m ≤ 140737488355328) (w0 w : World) (F0 : List Nat) (L G : List Res) (I : St w0 F0 w (Aa b [.pointer a, .slice A m cp] 307 :: Af (.slice A m cp) 5 1 m (bvs (l)) :: L) G) :
  Calls Tryz.prog 196 #[.pointer (some ⟨b, 0, none⟩)] w fun e w' => e = .returned (.string (str l)) ∧ St w0 F0 w' L G := by
 have hrow : (Af (.slice A m cp) 5 1 m (bvs l)).holds w := I.res _ (.tail _ (.head _)); have hlen : l.length = m := by have := hrow.1; rw [Ao, Nat.mul_one] at this; exact this
 rcases Zb hrow with ⟨rfl, rfl, rfl, hl⟩ | ⟨gb, rfl⟩
 ·obtain rfl : l = [] := by unfold bvs at hl; rwa [List.map_eq_nil_iff] at hl
  exact Af4 b a _ _ _ _ _ (I.sub (.cons_cons _ (.cons _ (.refl _))))
 ·obtain ⟨_, _, hmc, _⟩ := Jr hrow; exact Zk b a gb m cp l (hz.resolve_right (by simp)) hmc hb _ _ _ _ _ I
def J4 (tbl : List Int) (tab : List (Int × Int)) : List UInt8 := tab.flatMap fun x => ((G8 tbl x.1 ++ [58]) ++ G8 tbl x.2) ++ [59]
theorem Ap6 (tbl : List Int) (l : List (Int × Int)) (k : Nat) (h : k < l.length) : J4 tbl (l.take (k + 1)) = J4 tbl (l.take k) ++ (((G8 tbl (lp l k).1 ++ [58]) ++ G8 tbl (lp l k).2) ++ [59]) := by
 rw [Aj7 h]; unfold J4; rw [List.flatMap_append]; simp
theorem Aj0 (tbl : List Int) (l : List (Int × Int)) (h : ∀ x ∈ l, Bz x.1 ∧ Bz x.2) : (J4 tbl l).length ≤ 50 * l.length := by
  induction l with
  | nil => simp [J4]
  | cons x l ih =>
    have h1 := Na tbl (h x (by simp)).1; have h2 := Na tbl (h x (by simp)).2; have ih := ih fun y hy => h y (by simp [hy]); have e : J4 tbl (x :: l) = (((G8 tbl x.1 ++ [58]) ++ G8 tbl x.2) ++ [59]) ++ J4 tbl l := rfl; rw [e]; simp only [List.length_append, List.length_cons, List.length_nil]; omega
theorem Bf0 (a b : List UInt8) : str a ++ str b = str (a ++ b) := by
 apply ByteArray.ext; simp [str]
theorem Y.addL {P : Program} {S : World → Prop} {ρ : Env} {ty t t' : TypeId} {x y : Operand} {a b : List UInt8} (hx : ev ρ x = .string (str a)) (hy : ev ρ y = .string (str b)) (h : a.length + b.length ≤ 9223372036854775807) : Y P S ρ (.binOp .add t x y t') ty (.string (str (a ++ b))) := by
 rw [← Bf0]; exact Y.addT hx hy (by rw [Gx, Gx]; exact h)
set_option maxHeartbeats 1000000 in
theorem Aj1 (tbl : List Int) (htl : tbl.length = 20) (l : List (Int × Int)) (hT : Bn l) (A : Option Addr) (cap : Nat) (w0 w : World) (F0 : List Nat) (L G : List Res) (I : St w0 F0 w L G) (hpw : Gw tbl ∈ G) (hr : Rds L G (.slice A l.length cap) l.length (lcs l)) :
  Calls Tryz.prog 187 #[.slice A l.length cap] w fun e w' => e = .returned (.string (str (J4 tbl l))) ∧ St w0 F0 w' L G := by
 refine W.func func187 O ntmps187 O<|Wh O<|I.y O (Y.assignT O)<|Ds O O<|Ow O (X.allocA I zeroValue307 fun p3 w3 I => Od O<|Wq O<|Wh O<|?_); replace I := I.nilRow 5 1; replace I := I.swap; refine I.s O O<|I.y O (Y.lenS underlying41 O)<|I.u O O<|Od O<|Wb O<|?_; refine W.loop (γ := Nat × Option Addr × Option Addr × Nat) [(3, .pointer _), (6, .slice _ _ _), (7, .int _ _)] (fun x => [(8, .int .i64 (x.1 : Int))]) (fun x w => (x.1 ≤ l.length ∧ (x.2.1 = none ∨ x.2.1 = some ⟨p3, 0, none⟩) ∧ (0 < (J4 tbl (l.take x.1)).length ∨ x.2.2.1 = none)) ∧ St w0 F0 w (Aa p3 [.pointer x.2.1, .slice x.2.2.1 (J4 tbl (l.take x.1)).length x.2.2.2] 307 :: Af (.slice x.2.2.1 (J4 tbl (l.take x.1)).length x.2.2.2) 5 1 (J4 tbl (l.take x.1)).length (bvs (J4 tbl (l.take x.1))) :: L) G) (fun x => l.length - x.1) ((0, none, none, 0)) O ⟨O, O, O, trivial⟩ ?_ ?_ ?_
 ·exact ⟨O, trivial⟩
 ·exact ⟨⟨by omega, .inl O, .inr O⟩, I⟩
 ·clear I; rintro ⟨k, a, A3, c3⟩ j w4 ⟨⟨hk, ha, hz⟩, I⟩; dsimp only at hk ha hz; refine Wh O<|I.v O O O (fun b9 hb9 => Od O<|Wq O<|?_); cases b9
  ·replace hb9 := dF hb9; refine Wu O O<|W.exit O<|Wq O<|?_; obtain rfl : k = l.length := by omega
   have e1 : l.take l.length = l := List.take_length; have hkl := Aj0 tbl (l.take l.length) (fun x hx => hT.2 x (List.mem_of_mem_take hx)); rw [List.length_take] at hkl; have hl6 := hT.1; refine Wr O<|Ow O (X.ret Bq7 (Af3 p3 a A3 (J4 tbl (l.take l.length)).length c3 (J4 tbl (l.take l.length)) hz (by omega) _ _ _ _ _ I) O fun _ I => I.y O (Y.assignT O)<|Od O<|We O<|⟨_, Ac.one results187 O, ?_⟩); exact ⟨congrArg (fun q => Ending.returned (.string (str (J4 tbl q)))) e1, I⟩
  ·replace hb9 := dT hb9; refine Wt O O<|Wk O<|Wq O<|Wb O<|Wq O<|?_; have hk1 : k < l.length := by omega
   have hk2 := hT.2 _ (Wa hk1); have h1 := Na tbl hk2.1; have h2 := Na tbl hk2.2; have hkl := Aj0 tbl (l.take k) (fun x hx => hT.2 x (List.mem_of_mem_take hx)); rw [List.length_take] at hkl; have hl6 := hT.1; refine Wr rfl<|I.y rfl (Y.indexAddr underlying41 sizeOf114 rfl rfl (((((hr.cons _).cons _)).sl I).ne (by rw [Ea]; omega)) (by omega))<|?_; refine I.y O (Y.loadSlA isAgg114 sizeOf114 O ((hr.cons _).cons _) (Lg hk1) O)<|Ow O (X.allocA I zeroValue114 fun p5 w5 I => Ow O (X.storeS I 0 sizeOf114 O O O O O (lZ O) O O fun _ I => Od O<|W.drawn O (by kernel_rfl) (Ctx _ _ (_) (_)) [6, 7, 8, 9] (.op 0 0 (.op 1 0 (.op 4 0 (.op 5 0 (.op 2 1 (.op 3 2 (.op 6 1 (.op 7 1 (.op 8 1 (.op 9 1 .nil)))))))))) O (by kernel_rfl) I.drew.ctx<|?_)); replace I := I.drew; generalize World.drew _ = wd at I ⊢; refine I.zf Ic rfl rfl<|I.zl 0 rfl rfl rfl rfl<|I.zf Ee rfl rfl<|I.zl 0 rfl rfl rfl rfl<|Dw rfl (X.ret Bh5 (X6 tbl htl (lp l k).1 hk2.1 _ _ _ _ _ I hpw) rfl fun _ I => ⟨I.ctx, Drw.ya rfl rfl rfl I.ctx (Y.addL rfl rfl (by simp only [List.length_append, List.length_cons, List.length_nil]; omega))<|?_⟩); refine Drw.z rfl rfl rfl rfl (X.ret Bh5 (X6 tbl htl (lp l k).2 hk2.2 _ _ _ _ _ I hpw) rfl fun _ I => Drw.zy rfl rfl rfl rfl I.ctx (Y.addL rfl rfl (by simp only [List.length_append, List.length_cons, List.length_nil]; omega))<|?_); refine Drw.zy rfl rfl rfl rfl I.ctx (Y.addL rfl rfl (by simp only [List.length_append, List.length_cons, List.length_nil]; omega)) ?_; refine Drw.z O O O O (X.call Bq6 O ?_); refine Ab (Pv p3 a A3 (J4 tbl (l.take k)).length c3 (J4 tbl (l.take k)) ha (((G8 tbl (lp l k).1 ++ [58]) ++ G8 tbl (lp l k).2) ++ [59]) (by simp only [List.length_append, List.length_cons, List.length_nil]; omega) (by simp only [List.length_append, List.length_cons, List.length_nil]; omega) _ _ _ _ _ (I.up_2.up_2)) rfl ?_; clear I; rintro e w21 ⟨v21, A21, c21, rfl, I⟩; replace I := I.dn2.dn2; refine ⟨_, O, ?_⟩; refine Dd<|Wr O<|I.j O O O (by omega)<|I.u O O<|Od O<|?_; have hst2 := (I.dr 1); have e1 := Ap6 tbl l k hk1; rw [← e1] at hst2; have e2 := congrArg List.length e1; rw [List.length_append] at e2; rw [← e2] at hst2; exact ⟨(k + 1, some ⟨p3, 0, none⟩, A21, c21), ⟨rfl, trivial⟩, ⟨rfl, rfl, rfl, trivial⟩, ⟨⟨by omega, .inr rfl, .inl (by rw [e2]; simp only [List.length_append, List.length_cons, List.length_nil]; omega)⟩, hst2⟩, by dsimp only; omega⟩
theorem Bh4 : CF 187 := fun _ _ => by simp [go_sem]
theorem Bq0 : CF 188 := fun _ _ => by simp [go_sem]
theorem Bq1 : CF 189 := fun _ _ => by simp [go_sem]
theorem Bq2 : CF 190 := fun _ _ => by simp [go_sem]
theorem Bs9 : (Tryz.prog.info? 9).map (fun i => (i.zero, i.size, i.bytes)) = some (some (Value.string ⟨#[]⟩), 1, 16) := by kernel_rfl
structure Tb where
  tab : List (Int × Int)
  A : Option Addr
  cap : Nat
def tbC (t : Tb) : List Value := [.slice t.A t.tab.length t.cap]
theorem Qd (t : Tb) : (tbC t).length = 1 := rfl
theorem A68 (l : List Tb) (k : Nat) (h : k < l.length) : (Ae tbC l)[(k : Int).toNat * 1]? = some (.slice l[k].A l[k].tab.length l[k].cap) := Xq Qd l k h
def Bg0 (G : List Res) (l : List Tb) : Prop := ∀ t ∈ l, Bn t.tab ∧ Rds [] G (.slice t.A t.tab.length t.cap) t.tab.length (lcs t.tab)
def Pb (tbl : List Int) (t : Tb) : ByteArray := str (J4 tbl t.tab)
def Ed (tbl : List Int) (l : List Tb) : List ByteArray := (l.filter fun t => decide (Fo t.tab)).map (Pb tbl)
theorem O2 (tbl : List Int) (l : List Tb) (k : Nat) (h : k < l.length) : Ed tbl (l.take (k + 1)) = if Fo l[k].tab then Ed tbl (l.take k) ++ [Pb tbl l[k]] else Ed tbl (l.take k) := by
 rw [List.take_succ_eq_append_getElem h]; unfold Ed; rw [List.filter_append, List.map_append]
 by_cases hg : Fo l[k].tab
 ·rw [if_pos hg]; simp [hg]
 ·rw [if_neg hg]; simp [hg]
theorem Tm (tbl : List Int) (l : List Tb) : (Ed tbl l).length ≤ l.length := by
 unfold Ed; rw [List.length_map]; exact List.length_filter_le _ _
theorem Z7 {tbl : List Int} {l : List Tb} {s : ByteArray} (h : s ∈ Ed tbl l) : ∃ t ∈ l, decide (Pb tbl t = s) = true := by
 unfold Ed at h; obtain ⟨t, ht, rfl⟩ := List.mem_map.1 h; exact ⟨t, (List.mem_filter.1 ht).1, decide_eq_true rfl⟩
theorem Ayx {α : Type} {p : α → Bool} {l : List α} (h : ∃ x ∈ l, p x = true) : ∃ j : Nat, Di p l = (j : Int) ∧ j < l.length := by
 have h1 := P6 p l; rw [decide_eq_true h] at h1; have h2 := of_decide_eq_true h1; have h3 := (J3 p l).2; refine ⟨(Di p l).toNat, by omega, ?_⟩; rcases h3 with h3 | h3
 ·omega
 ·omega
theorem Z8 (tbl : List Int) (htl : tbl.length = 20) (t : Tb) (hT : Bn t.tab) (key : ByteArray) (b : Nat) (w0 w : World) (F0 : List Nat) (L G : List Res) (I : St w0 F0 w L G) (hpw : Gw tbl ∈ G) (hr : Rds [] G (.slice t.A t.tab.length t.cap) t.tab.length (lcs t.tab)) (j : Nat) (hj : L[j]? = some (Aa b [.string key] 9)) :
  Calls Tryz.prog 190 #[.slice t.A t.tab.length t.cap, .pointer (some ⟨b, 0, none⟩)] w fun e w' => e = .returned (.bool (decide (Pb tbl t = key))) ∧ St w0 F0 w' L G := by
 refine W.func func190 O ntmps190 O<|Wh O<|I.g O O<|Od O<|Wq O<|W.drawn O (by kernel_rfl) (Ctx _ _ (_) (_)) [] (.op 0 0 (.op 2 0 (.op 1 1 (.op 3 0 (.op 4 0 .nil))))) O (by kernel_rfl) I.drew.ctx<|?_; replace I := I.drew; generalize World.drew _ = wd at I ⊢; refine I.zs O O<|I.z O (Y.load j isAgg9 O hj O)<|Dw O (X.ret Bh4 (Aj1 tbl htl t.tab hT _ _ _ _ _ _ _ I hpw hr.hd) O fun _ I => ⟨I.ctx, Drw.yb O O O I.ctx (Y.eqT O O) (fun b7 hb7 => I.zg O O<|Dd<|We O<|⟨_, Ac.one results190 O, ?_⟩)⟩); exact ⟨congrArg (fun b => Ending.returned (.bool b)) hb7, I⟩
set_option maxHeartbeats 1000000 in
theorem Am2 (tbl : List Int) (htl : tbl.length = 20) (p : Par) (own : List (Int × Int)) (hT : Bn own) (A : Option Addr) (cap : Nat) (ts : List Tb) (htn : ts.length ≤ 1000000) (B : Option Addr) (cb : Nat) (w0 w : World) (F0 : List Nat) (L G : List Res) (I : St w0 F0 w L G) (hpw : Gw tbl ∈ G) (hfit : Bg0 G ts) (hro : Rds [] G (.slice A (own).length cap) (own).length (lcs (own))) (hr : Rds L G (.slice B ts.length cb) ts.length (Ae tbC ts)) :
  Calls Tryz.prog 184 #[.agg #[.int .i64 p.N, .int .i64 p.F, .int .i64 p.D, .int .i64 p.Beat, .int .i64 p.Rho, .int .i64 p.Delay, .int .i64 p.Jitter, .int .i64 p.Eps, .int .i64 p.Mu, .int .i64 p.Hold, .int .i64 p.Pulse, .int .i64 p.Second], .slice A own.length cap, .slice B ts.length cb] w fun e w' => ∃ tab A' c' b, e = .returned (.tuple #[.slice A' tab.length c', .bool b]) ∧ (tab = own ∨ ∃ t ∈ ts, tab = t.tab) ∧ St w0 F0 w' L (Af (.slice A' (tab).length c') 114 2 (tab).length (lcs (tab)) :: G) := by
 refine W.func func184 O ntmps184 O<|Wh O<|Ow O (X.boxA I O fun p3 w3 I => I.y O (Y.assignS O)<|I.g O O<|Ds O O<|I.y O (Y.assignS O)<|Od O<|Wq O<|Wh O<|?_); replace I := I.nilRow 9 1; refine I.s O O<|I.y O (Y.lenS underlying290 O)<|I.u O O<|Od O<|Wb O<|?_; refine W.loop (γ := Nat × (Option Addr × Nat)) [(1, .slice _ _ _), (2, .slice _ _ _), (3, .pointer _), (14, .slice _ _ _), (15, .int _ _)] (fun x => [(8, .slice x.2.1 (Ed tbl (ts.take x.1)).length x.2.2), (16, .int .i64 (x.1 : Int))]) (fun x w => x.1 ≤ ts.length ∧ St w0 F0 w (Af (.slice x.2.1 (Ed tbl (ts.take x.1)).length x.2.2) 9 1 (Ed tbl (ts.take x.1)).length (Mm (Ed tbl (ts.take x.1))) :: Aa p3 (E4 p) 23 :: L) G) (fun x => ts.length - x.1) ((0, (none, 0))) O ⟨O, O, O, O, O, trivial⟩ ?_ ?_ ?_
 ·exact ⟨O, O, trivial⟩
 ·exact ⟨by omega, I⟩
 ·clear I; rintro ⟨k, ⟨A8, c8⟩⟩ j w5 ⟨hk, I⟩; refine Wh O<|I.v O O O (fun b17 hb17 => Od O<|Wq O<|?_); cases b17
  ·replace hb17 := dF hb17; refine Wu O O<|W.exit O<|Wq O<|?_; obtain rfl : k = ts.length := by omega
   have hkl := Tm tbl (ts.take ts.length); rw [List.length_take] at hkl; replace hkl : (Ed tbl (ts.take ts.length)).length ≤ 1000000 := by omega
   have e1 : ts.take ts.length = ts := List.take_length; refine Wr O<|I.f N0 O O<|I.l 1 O O O O<|I.s O O<|Oc O Bq0 O ?_; refine Ab (Z9 p.F (Ed tbl (ts.take ts.length)) hkl A8 c8 _ _ _ _ _ I (Rds.rowL 0 O)) O ?_; clear I; rintro e w32 ⟨key, b34, rfl, hkey, I⟩; have hb34 : b34 = decide (b34 = true) := by (cases b34 <;> rfl)
   refine ⟨_, O, I.y O (Y.moveU O)<|I.e O O O<|I.e O O O<|Ow O (X.alloc1 I zeroValue9 O fun p11 w11 I => Ow O (X.storeV I 0 (.string _) sizeOf9 O O O O (lZ O) O O fun _ I => I.g O O<|Od O<|Wq O<|Wh O<|I.b O O<|?_))⟩; cases b34
   ·replace hb34 := dF hb34; refine I.q O O<|Od O<|Wt O O<|Wh O<|I.s O O<|Oc O A9z O ?_; refine Ab (Lc _ _ own hT.1 _ _ _ _ _ I hro.hd) O ?_; clear I; rintro e w38 ⟨A38, c38, rfl, I⟩; refine ⟨_, O, ?_⟩; refine I.y O (Y.assignS O)<|I.g O O<|Od O<|We O<|⟨_, Ac.two results184 O O, ?_⟩; exact ⟨own, A38, c38, _, O, .inl O, (I.dr 3)⟩
   ·replace hb34 := dT hb34; refine I.q O O<|Od O<|Wu O O<|Wk O<|Wq O<|?_; have hmem := hkey rfl; rw [e1] at hmem; obtain ⟨jx, hj2, hjx⟩ := Ayx (Z7 hmem); refine Wr O<|I.s O O<|I.y O (Y.makeFunc O O)<|Ow O (X.ret Bq1 (Rp tbC Qd (fun t => decide (Pb tbl t = key)) ts (by omega) B cb 190 [] [.pointer (some ⟨p11, 0, none⟩)] Bq2 _ _ _ _ _ I (((hr.cons _).cons _).cons _) (fun x hx w I => Z8 tbl htl x (hfit x hx).1 key p11 _ _ _ _ _ I hpw (hfit x hx).2 0 O)) O fun _ I => I.a O O<|Ds O O<|I.s O O<|I.u O O<|I.y O (Y.indexAddr underlying290 sizeOf41 O O ((Rds.sl (((hr.cons _).cons _).cons _) I).ne (Bi Qd (by decide) (by omega))) (by omega))<|?_); refine I.y rfl (Y.loadSl isAgg41 rfl (((hr.cons _).cons _).cons _) (by rw [hj2]; exact A68 ts jx hjx)) ?_; refine Oc O A9z O ?_; refine Ab (Lc _ _ ts[jx].tab (hfit _ (List.getElem_mem hjx)).1.1 _ _ _ _ _ I (hfit _ (List.getElem_mem hjx)).2.hd) O ?_; clear I; rintro e w46 ⟨A46, c46, rfl, I⟩; refine ⟨_, O, ?_⟩; refine I.y O (Y.assignS O)<|I.g O O<|Od O<|We O<|⟨_, Ac.two results184 O O, ?_⟩; exact ⟨ts[jx].tab, A46, c46, _, O, .inr ⟨_, List.getElem_mem hjx, O⟩, (I.dr 3)⟩
  ·replace hb17 := dT hb17; refine Wt O O<|Wk O<|Wq O<|Wb O<|Wq O<|?_; have hk1 : k < ts.length := by omega
   have hdf := hfit _ (List.getElem_mem hk1); have hkl := Tm tbl (ts.take k); rw [List.length_take] at hkl; refine Wr O<|I.y O (Y.indexAddr underlying290 sizeOf41 O O ((Rds.sl ((hr.cons _).cons _) I).ne (Bi Qd (by decide) (by omega))) (by omega))<|?_; refine I.y O (Y.loadSl isAgg41 O ((hr.cons _).cons _) (A68 ts k hk1))<|I.y O (Y.assignS O)<|Ds O O<|I.s O O<|Ow O (X.retB Bj4 (Rg ts[k].tab _ _ hdf.1.1 hdf.1.2 _ _ _ _ _ I hdf.2.hd) O fun b21 w21 hb21 I => Od O<|?_); cases b21
   ·replace hb21 := dF hb21; refine Wu O O<|Wk O<|Wr O<|I.j O O O (by omega)<|I.u O O<|Od O<|?_; have e2 := (O2 tbl ts k hk1).trans (if_neg hb21); refine ⟨(k + 1, (A8, c8)), ⟨?_, O, trivial⟩, ⟨O, O, O, O, O, trivial⟩, ⟨by omega, by rw [e2]; exact I⟩, by dsimp only at *; omega⟩; rw [e2]; rfl
   ·replace hb21 := dT hb21; refine Wt O O<|Wr O<|I.s O O<|I.s O O<|Ow O (X.ret Bh4 (Aj1 tbl htl ts[k].tab hdf.1 _ _ _ _ _ _ _ I hpw hdf.2.hd) O fun _ I => Ow O (X.lits I underlying28 sizeOf9 zeroValue9 (by rfl) (by rfl) (by rfl) [.string _] (by rfl) (by rfl) fun p25 w25 I => ?_)); refine Ow rfl (X.app I 1 0 underlying28 Bs9 rfl rfl rfl rfl rfl rfl rfl rfl (by dsimp only; unfold maxLen; omega) (by dsimp only; omega) fun A26 c26 w26 I => ?_); refine I.y O (Y.assignS O)<|Od O<|Wr O<|I.j O O O (by omega)<|I.u O O<|Od O<|?_; have e2 := (O2 tbl ts k hk1).trans (if_pos hb21); have e3 : (Ed tbl (ts.take k) ++ [Pb tbl ts[k]]).length = (Ed tbl (ts.take k)).length + 1 := by simp
    have e4 : Mm (Ed tbl (ts.take k) ++ [Pb tbl ts[k]]) = Mm (Ed tbl (ts.take k)) ++ [.string (Pb tbl ts[k])] := by unfold Mm; rw [List.map_append]; rfl
    refine ⟨(k + 1, (A26, c26)), ⟨?_, O, trivial⟩, ⟨O, O, O, O, O, trivial⟩, ⟨by omega, by rw [e2, e3, e4]; exact (I.dr 1)⟩, by dsimp only at *; omega⟩; rw [e2, e3]; rfl
end
section
open Tryz Go.RowKit YtaanjifekgfemaaGreat.K YtaanjifekgfemaaGreat.W
def Q1 (h : Hd) : Prop := h.m.good = true ∧ ¬ h.m.shi < h.m.slo
instance (h : Hd) : Decidable (Q1 h) := by unfold Q1; infer_instance
def Bk (l : List Hd) : List Hd := l.filter fun h => decide (Q1 h)
def G6 (p : Par) (l : List Hd) : List Hd := Bk (Al p (-1) l)
def Kj (p : Par) (h : Hd) : Sp := way p ⟨h.m.slo, h.m.shi⟩ h.age
def Np (h : Hd) : Tb := ⟨h.m.tab, h.A, h.cap⟩
def Cq (h : Hd) : Int := h.m.held
theorem Qz (l : List Hd) (k : Nat) (h : k < l.length) : Bk (l.take (k + 1)) = if Q1 l[k] then Bk (l.take k) ++ [l[k]] else Bk (l.take k) := by
 rw [List.take_succ_eq_append_getElem h]; unfold Bk; rw [List.filter_append]
 by_cases hg : Q1 l[k]
 ·rw [if_pos hg]; simp [hg]
 ·rw [if_neg hg]; simp [hg]
theorem Xk (l : List Hd) : (Bk l).length ≤ l.length := List.length_filter_le _ _
theorem Nw {l : List Hd} {h : Hd} (hm : h ∈ Bk l) : h ∈ l ∧ Q1 h := by
 unfold Bk at hm; have := List.mem_filter.1 hm; exact ⟨this.1, of_decide_eq_true this.2⟩
def Gu (p : Par) (l : List Hd) : List Sp := (G6 p l).map (Kj p)
def E0 (p : Par) (l : List Hd) : Prop := Fc p.F (Gu p l)
instance (p : Par) (l : List Hd) : Decidable (E0 p l) := by unfold E0; infer_instance
def M2 (p : Par) (l : List Hd) (nx : Stt) (tab : List (Int × Int)) : Stt := { nx with lo := (Db p.F (Gu p l)).lo, hi := (Db p.F (Gu p l)).hi, held := Gl p.F ((G6 p l).map Cq), hops := 0, good := true, tab := tab }
def Q0 (p : Par) (l : List Hd) (nx : Stt) (tab : List (Int × Int)) : Stt := if E0 p l then M2 p l nx tab else nx
def Py (p : Par) (l : List Hd) (nx : Stt) (tab : List (Int × Int)) : Prop := tab = nx.tab ∨ ∃ h ∈ G6 p l, tab = h.m.tab
end
section
open Tryz Go.RowKit YtaanjifekgfemaaGreat.K YtaanjifekgfemaaGreat.W
attribute [local irreducible] Bg Ak Bb sub neg mag Da mul Dy
theorem Bpq : CF 183 := fun _ _ => by simp [go_sem]
theorem Bpx : CF 184 := fun _ _ => by simp [go_sem]
theorem Bkq : (Tryz.prog.info? 41).map (fun i => (i.zero, i.size, i.bytes)) = some (some (Value.slice none 0 0), 1, 24) := by kernel_rfl
theorem X8 (l : List Int) (x : Int) : ivs (l ++ [x]) = ivs l ++ [.int .i64 x] := by unfold ivs; rw [List.map_append]; rfl
theorem Anx {α : Type} (c : α → List Value) (x : α) : Ae c [x] = c x := by simp [Ae]
set_option maxHeartbeats 4000000 in
theorem Aw5 (tbl : List Int) (htl : tbl.length = 20) (b : Nat) (T : TypeId) (p : Par) (s : Stt) (A : Option Addr) (cap : Nat) (rest : List Value) (l : List Hd) (hl : l.length ≤ 1000000) (hasc : Asc l) (B : Option Addr) (cb : Nat) (nx : Stt) (hnx : Bn nx.tab) (A2 : Option Addr) (c2 : Nat) (w0 w : World) (F0 : List Nat) (L G : List Res) (I : St w0 F0 w (frR b T p s A cap rest :: L) G) (hpw : Gw tbl ∈ G) (hr : Rds L G (.slice B l.length cb) l.length (Ae hdC l)) (hfit : Lq G l) (hrx : Rds [] G (.slice A2 (nx.tab).length c2) (nx.tab).length (lcs (nx.tab))) :
  Calls Tryz.prog 176 #[.pointer (some ⟨b, 0, none⟩), .slice B l.length cb, .agg #[.int .i64 nx.lo, .int .i64 nx.hi, .int .i64 nx.time, .bool nx.set, .int .i64 nx.held, .int .i64 nx.hops, .bool nx.good, .slice A2 nx.tab.length c2, .int .i64 nx.st, .int .i64 nx.sn, .int .i64 nx.life]] w fun e w' => ∃ tab ok A3 c3 G', e = .returned (.tuple #[.agg (Fk (Q0 p l nx tab) A3 c3).toArray, .bool ok]) ∧ ok = decide (E0 p l) ∧ Py p l nx tab ∧ (∀ r ∈ G, r ∈ G') ∧ Rds [] G' (.slice A3 ((Q0 p l nx tab).tab).length c3) ((Q0 p l nx tab).tab).length (lcs ((Q0 p l nx tab).tab)) ∧ St w0 F0 w' (frR b T p s A cap rest :: L) G' := by
 replace hr := hr.cons (frR b T p s A cap rest); refine W.func func176 O ntmps176 O<|Wh O<|Ow O (X.boxA I O fun p5 w5 I => Ow O (X.allocA I zeroValue57 fun p6 w6 I => I.g O O<|Ds O O<|I.y O (Y.assignS O)<|Ds O O<|I.y O (Y.assignS O)<|Ds O O<|I.y O (Y.assignS O)<|Od O<|Wq O<|Wh O<|?_)); replace I := ((I.nilRow 41 1).nilRow 3 1).nilRow 53 2; refine I.p O O<|I.t O O<|I.f C7 O O<|I.f Ej O O<|I.y O (Y.loadA 5 isAgg23 sizeOf23 O O O O)<|I.s O O<|Oc O Bg7 O ?_; refine Ab (Zm p (-1) l hl hasc _ _ _ _ _ _ _ I (((((hr.cons _).cons _).cons _).cons _).cons _)) O ?_; clear I; rintro e w21 ⟨A21, c21, rfl, I⟩; refine ⟨_, O, ?_⟩; refine I.y O (Y.lenS underlying97 O)<|I.u O O<|Od O<|Wb O<|?_; refine W.loop (γ := Nat × (Option Addr × Nat) × (Option Addr × Nat) × (Option Addr × Nat)) [(0, .pointer _), (5, .pointer _), (6, .pointer _), (21, .slice _ _ _), (22, .int _ _)] (fun x => [(8, .slice x.2.1.1 ((Bk ((Al p (-1) l).take x.1)).map (Kj p)).length x.2.1.2), (9, .slice x.2.2.1.1 ((Bk ((Al p (-1) l).take x.1)).map Cq).length x.2.2.1.2), (10, .slice x.2.2.2.1 ((Bk ((Al p (-1) l).take x.1)).map Np).length x.2.2.2.2), (23, .int .i64 (x.1 : Int))]) (fun x w => x.1 ≤ (Al p (-1) l).length ∧ St w0 F0 w (Af (.slice x.2.1.1 ((Bk ((Al p (-1) l).take x.1)).map (Kj p)).length x.2.1.2) 53 2 ((Bk ((Al p (-1) l).take x.1)).map (Kj p)).length (Ae spC ((Bk ((Al p (-1) l).take x.1)).map (Kj p))) :: Af (.slice x.2.2.1.1 ((Bk ((Al p (-1) l).take x.1)).map Cq).length x.2.2.1.2) 3 1 ((Bk ((Al p (-1) l).take x.1)).map Cq).length (ivs ((Bk ((Al p (-1) l).take x.1)).map Cq)) :: Af (.slice A21 (Al p (-1) l).length c21) 138 15 (Al p (-1) l).length (Ae hdC (Al p (-1) l)) :: Af (.slice x.2.2.2.1 ((Bk ((Al p (-1) l).take x.1)).map Np).length x.2.2.2.2) 41 1 ((Bk ((Al p (-1) l).take x.1)).map Np).length (Ae tbC ((Bk ((Al p (-1) l).take x.1)).map Np)) :: Aa p6 (Fk ⟨0, 0, 0, false, 0, 0, false, [], 0, 0, 0⟩ none 0) 57 :: Aa p5 (Fk (nx) A2 c2) 57 :: frR b T p s A cap rest :: L) G) (fun x => (Al p (-1) l).length - x.1) ((0, (none, 0), (none, 0), (none, 0))) O ⟨O, O, O, O, O, trivial⟩ ?_ ?_ ?_
 ·exact ⟨O, O, O, O, trivial⟩
 ·exact ⟨by omega, I.up_2.up_2⟩
 ·clear I; rintro ⟨k, ⟨A8, c8⟩, ⟨A9, c9⟩, ⟨A10, c10⟩⟩ j w5 ⟨hk, I⟩; refine Wh O<|I.v O O O (fun b24 hb24 => Od O<|Wq O<|?_); cases b24
  ·replace hb24 := dF hb24; refine Wu O O<|W.exit O<|Wq O<|?_; obtain rfl : k = (Al p (-1) l).length := by omega
   have hcl := Xk ((Al p (-1) l).take (Al p (-1) l).length); rw [List.length_take] at hcl; have h16 := I2 (p := p) (me := -1) hasc; have hgl : ((Bk ((Al p (-1) l).take (Al p (-1) l).length)).map (Kj p)).length ≤ 1000000 := by rw [List.length_map]; omega
   have hgl2 : ((Bk ((Al p (-1) l).take (Al p (-1) l).length)).map Cq).length ≤ 1000000 := by rw [List.length_map]; omega
   have hgl3 : ((Bk ((Al p (-1) l).take (Al p (-1) l).length)).map Np).length ≤ 1000000 := by rw [List.length_map]; omega
   have e1 : (Bk ((Al p (-1) l).take (Al p (-1) l).length)) = G6 p l := by rw [List.take_length]; rfl
   have htf : Bg0 G ((Bk ((Al p (-1) l).take (Al p (-1) l).length)).map Np) := by
    intro t ht; obtain ⟨h, hh, rfl⟩ := List.mem_map.1 ht; exact hfit h ((Et p (-1) l).mem (List.mem_of_mem_take (Nw hh).1))
   refine Wr O<|I.p O O<|I.t O O<|I.f C7 O O<|I.f Ej O O<|I.y O (Y.loadA 6 isAgg23 sizeOf23 O O O O)<|I.s O O<|Oc O Bg9 O ?_; refine Ab (To p ((Bk ((Al p (-1) l).take (Al p (-1) l).length)).map (Kj p)) hgl A8 c8 _ _ _ _ _ I (Rds.rowL 0 O)) O ?_; clear I; rintro e w71 ⟨b73, rfl, hb73, I⟩; refine ⟨_, O, ?_⟩; refine I.y O (Y.moveU O)<|I.e O O O<|I.e O O O<|Ow O (X.allocA I zeroValue53 fun p13 w13 I => Ow O (X.storeS I 0 sizeOf53 O O O O O (lZ O) O O fun _ I => I.g O O<|Od O<|Wq O<|Wh O<|I.b O O<|?_)); cases b73
   ·replace hb73 := dF hb73; refine I.q O O<|Od O<|Wt O O<|Wh O<|I.y O (Y.loadA 6 isAgg57 sizeOf57 O O O O)<|Ow O (X.storeS I 5 sizeOf57 O O O O O (lZ O) O O fun _ I => I.g O O<|Od O<|We O<|⟨_, Ac.cellTmp results176 O (Bd isAgg57 sizeOf57 5 I O O) O, ?_⟩); rw [e1] at hb73; have hno : ¬ E0 p l := hb73; have hq : Q0 p l nx nx.tab = nx := if_neg hno; exact ⟨nx.tab, false, A2, c2, G, congrArg (fun q => Ending.returned (.tuple #[.agg (Fk q A2 c2).toArray, .bool false])) hq.symm, (decide_eq_false hno).symm, .inl O, fun r hr => hr, by rw [hq]; exact hrx, (I.dr 7)⟩
   ·replace hb73 := dT hb73; refine I.q O O<|Od O<|Wu O O<|Wk O<|Wh O<|I.y O (Y.loadA 0 isAgg53 sizeOf53 O O O O)<|I.f Br O O<|Ow O (X.storeS I 6 sizeOf53 O O O O O (lZ O) O O fun _ I => I.f B3 O O<|Ow O (X.storeV I 6 (.int _ _) sizeOf3 O O O O (lZ O) O O fun _ I => I.f Bl O O<|Ow O (X.storeV I 6 (.bool _) sizeOf4 O O O O (lZ O) O O fun _ I => Ds O O<|I.p O O<|I.t O O<|I.f C7 O O<|I.f Ej O O<|I.y O (Y.loadA 7 isAgg23 sizeOf23 O O O O)<|I.s O O<|Oc O Bpq O ?_))); refine Ab (Ay7 p ((Bk ((Al p (-1) l).take (Al p (-1) l).length)).map Cq) hgl2 A9 c9 _ _ _ _ _ I (.tail _ (.tail _ (.head _)))) O ?_; clear I; rintro e w88 ⟨b90, rfl, I⟩; refine ⟨_, O, ?_⟩; refine I.y O (Y.moveU O)<|I.e O O O<|I.e O O O<|I.f Bt O O<|Ow O (X.storeV I 6 (.int _ _) sizeOf3 O O O O (lZ O) O O fun _ I => Od O<|Wq O<|W.drawn O (by kernel_rfl) (Ctx _ _ (_) (_)) [13] (.op 0 0 (.op 1 0 (.op 2 0 (.op 3 0 (.op 4 0 (.op 5 0 (.op 6 0 (.op 7 0 (.op 8 1 (.op 9 0 (.op 10 0 (.op 11 2 (.op 12 0 (.op 13 1 .nil)))))))))))))) O (by kernel_rfl) I.drew.ctx<|?_); replace I := I.drew; generalize World.drew _ = wd at I ⊢; refine I.zp O O<|I.zt O O<|I.zf C7 O O<|I.zf Ej O O<|I.z O (Y.loadA 7 isAgg23 sizeOf23 O O O O)<|I.zf I7 O O<|I.z O (Y.load 6 isAgg41 O O O)<|I.zs O O<|Dw O (X.call Bpx O<|?_); refine Ab (Am2 tbl htl p nx.tab hnx A2 c2 ((Bk ((Al p (-1) l).take (Al p (-1) l).length)).map Np) hgl3 A10 c10 _ _ _ _ _ I hpw htf hrx (Rds.rowL 4 O)) O ?_; clear I; rintro e w101 ⟨tab, A101, c101, b103, rfl, htab, I⟩; refine ⟨_, O, ⟨(I.cxg 0 1), ?_⟩⟩; refine Dq O (I.cxg 0 1) (Y.moveU O)<|Dq O (I.cxg 0 1) (Y.extract O O)<|Drw.ya O O O (I.cxg 0 1) (Y.extract O O)<|Dq O (I.cxg 0 1) (Y.fieldAddr I7 O)<|Drw.z O O O O (X.storeV I 6 (.slice _ _ _) sizeOf41 O O O O (lZ O) O O fun _ I => Dd<|Wh O<|I.y O (Y.loadA 6 isAgg57 sizeOf57 O O O O)<|Ow O (X.storeS I 5 sizeOf57 O O O O O (lZ O) O O fun _ I => I.g O O<|Od O<|We O<|⟨_, Ac.cellTmp results176 O (Bd isAgg57 sizeOf57 5 I O O) O, ?_⟩)); rw [e1] at hb73; have hyes : E0 p l := hb73; have hq : Q0 p l nx tab = M2 p l nx tab := if_pos hyes; have hq2 : M2 p l nx tab = { nx with lo := (Db p.F ((Bk ((Al p (-1) l).take (Al p (-1) l).length)).map (Kj p))).lo, hi := (Db p.F ((Bk ((Al p (-1) l).take (Al p (-1) l).length)).map (Kj p))).hi, held := Gl p.F ((Bk ((Al p (-1) l).take (Al p (-1) l).length)).map Cq), hops := 0, good := true, tab := tab } := by unfold M2 Gu; rw [← e1]
    refine ⟨tab, true, A101, c101, _, congrArg (fun q => Ending.returned (.tuple #[.agg (Fk q A101 c101).toArray, .bool true])) (hq.trans hq2).symm, (decide_eq_true hyes).symm, ?_, fun r hr => .tail _ hr, by rw [hq]; exact Rds.rowG 0 O, (I.dr 7)⟩; rcases htab with h | ⟨t, ht, h⟩
    ·exact .inl h
    ·obtain ⟨h2, hh2, rfl⟩ := List.mem_map.1 ht; exact .inr ⟨h2, by rw [← e1]; exact hh2, h⟩
  ·replace hb24 := dT hb24; refine Wt O O<|Wk O<|Wq O<|Wb O<|Wq O<|?_; have hk1 : k < (Al p (-1) l).length := by omega
   have hcl := Xk ((Al p (-1) l).take k); rw [List.length_take] at hcl; have h16 := I2 (p := p) (me := -1) hasc; have hm1 : ((Bk ((Al p (-1) l).take k)).map (Kj p)).length = (Bk ((Al p (-1) l).take k)).length := List.length_map ..; have hm2 : ((Bk ((Al p (-1) l).take k)).map Cq).length = (Bk ((Al p (-1) l).take k)).length := List.length_map ..; have hm3 : ((Bk ((Al p (-1) l).take k)).map Np).length = (Bk ((Al p (-1) l).take k)).length := List.length_map ..; refine Wr O<|I.y O (Y.indexAddr underlying97 sizeOf138 O O ((Rds.sl (Rds.rowL 2 (by rfl)) I).ne (Bi B5 (by decide) (by omega))) (by omega))<|?_; refine I.y O (Y.loadSlA isAgg138 sizeOf138 O (Rds.rowL 2 O) (Bo B5 (Al p (-1) l) k hk1) (B5 _))<|Ow O (X.allocA I zeroValue138 fun p12 w12 I => Ow O (X.storeS I 0 sizeOf138 O O O O O (lZ O) O O fun _ I => Od O<|Wq O<|?_)); refine W.cut [(0, .pointer _), (5, .pointer _), (6, .pointer _), (8, .slice _ _ _), (9, .slice _ _ _), (10, .slice _ _ _), (12, .pointer _), (21, .slice _ _ _), (22, .int _ _), (23, .int _ _)] (fun x : Bool => [(36, .bool x)]) (fun x w => x = decide (Q1 (Al p (-1) l)[k]) ∧ St w0 F0 w (Aa p12 (hdC (Al p (-1) l)[k]) 138 :: Af (.slice (A8, c8).1 ((Bk ((Al p (-1) l).take k)).map (Kj p)).length (A8, c8).2) 53 2 ((Bk ((Al p (-1) l).take k)).map (Kj p)).length (Ae spC ((Bk ((Al p (-1) l).take k)).map (Kj p))) :: Af (.slice (A9, c9).1 ((Bk ((Al p (-1) l).take k)).map Cq).length (A9, c9).2) 3 1 ((Bk ((Al p (-1) l).take k)).map Cq).length (ivs ((Bk ((Al p (-1) l).take k)).map Cq)) :: Af (.slice A21 (Al p (-1) l).length c21) 138 15 (Al p (-1) l).length (Ae hdC (Al p (-1) l)) :: Af (.slice (A10, c10).1 ((Bk ((Al p (-1) l).take k)).map Np).length (A10, c10).2) 41 1 ((Bk ((Al p (-1) l).take k)).map Np).length (Ae tbC ((Bk ((Al p (-1) l).take k)).map Np)) :: Aa p6 (Fk ⟨0, 0, 0, false, 0, 0, false, [], 0, 0, 0⟩ none 0) 57 :: Aa p5 (Fk (nx) A2 c2) 57 :: frR b T p s A cap rest :: L) G) ⟨O, O, O, O, O, O, O, O, O, O, trivial⟩ ?_ ?_
   rotate_left
   ·clear I; rintro b36 j w7 ⟨hb36, I⟩; cases b36
    ·replace hb36 := dF hb36; refine Wu O O<|Wk O<|Wr O<|I.j O O O (by omega)<|I.u O O<|Od O<|?_; have e2 := (Qz _ k hk1).trans (if_neg hb36); refine ⟨(k + 1, (A8, c8), (A9, c9), (A10, c10)), ⟨?_, ?_, ?_, O, trivial⟩, ⟨O, O, O, O, O, trivial⟩, ⟨by omega, by rw [e2]; exact (I.dr 1)⟩, by dsimp only at *; omega⟩ <;> rw [e2] <;> rfl
    ·replace hb36 := dT hb36; refine Wt O O<|Wq O<|?_; replace I := I.up_2; replace I := I.up_2; refine W.cut [(0, .pointer _), (5, .pointer _), (6, .pointer _), (10, .slice _ _ _), (12, .pointer _), (21, .slice _ _ _), (22, .int _ _), (23, .int _ _)] (fun x : (Option Addr × Nat) × (Option Addr × Nat) => [(8, .slice x.1.1 (((Bk ((Al p (-1) l).take k)).map (Kj p)).length + 1) x.1.2), (9, .slice x.2.1 (((Bk ((Al p (-1) l).take k)).map Cq).length + 1) x.2.2)]) (fun x w => St w0 F0 w (Af (.slice x.1.1 (((Bk ((Al p (-1) l).take k)).map (Kj p)).length + 1) x.1.2) 53 2 (((Bk ((Al p (-1) l).take k)).map (Kj p)).length + 1) (Ae spC ((Bk ((Al p (-1) l).take k)).map (Kj p)) ++ spC (Kj p (Al p (-1) l)[k])) :: Af (.slice x.2.1 (((Bk ((Al p (-1) l).take k)).map Cq).length + 1) x.2.2) 3 1 (((Bk ((Al p (-1) l).take k)).map Cq).length + 1) (ivs ((Bk ((Al p (-1) l).take k)).map Cq) ++ [.int .i64 (Al p (-1) l)[k].m.held]) :: Aa p12 (hdC (Al p (-1) l)[k]) 138 :: Af (.slice A21 (Al p (-1) l).length c21) 138 15 (Al p (-1) l).length (Ae hdC (Al p (-1) l)) :: Af (.slice A10 ((Bk ((Al p (-1) l).take k)).map Np).length c10) 41 1 ((Bk ((Al p (-1) l).take k)).map Np).length (Ae tbC ((Bk ((Al p (-1) l).take k)).map Np)) :: Aa p6 (Fk ⟨0, 0, 0, false, 0, 0, false, [], 0, 0, 0⟩ none 0) 57 :: Aa p5 (Fk (nx) A2 c2) 57 :: frR b T p s A cap rest :: L) G) ⟨O, O, O, O, O, O, O, O, trivial⟩ ?_ ?_
     rotate_left
     ·clear I; rintro ⟨⟨A50, c50⟩, ⟨A56, c56⟩⟩ j w8 I; refine Wr O<|I.s O O<|I.f Dg O O<|I.f Fl O O<|I.y O (Y.load 2 isAgg41 O O O)<|Ow O (X.lits I underlying290 sizeOf41 zeroValue41 (by rfl) (by rfl) (by rfl) [.slice _ _ _] (by rfl) (by rfl) fun p61 w61 I => ?_); refine Ow rfl (X.app I 5 0 underlying290 Bkq rfl rfl rfl rfl rfl rfl rfl rfl (by (try dsimp only); unfold maxLen; omega) (by (try dsimp only); omega) fun A62 c62 w62 I => ?_); refine I.y O (Y.assignS O)<|Od O<|Wr O<|I.j O O O (by omega)<|I.u O O<|Od O<|?_; have e2 := (Qz _ k hk1).trans (if_pos hb36); refine ⟨(k + 1, (A50, c50), (A56, c56), (A62, c62)), ⟨?_, ?_, ?_, O, trivial⟩, ⟨O, O, O, O, O, trivial⟩, ⟨by omega, ?_⟩, by dsimp only at *; omega⟩
      ·rw [e2, List.map_append, List.length_append]; rfl
      ·rw [e2, List.map_append, List.length_append]; rfl
      ·rw [e2, List.map_append, List.length_append]; rfl
      ·rw [e2]; simp only [List.map_append, List.map_cons, List.map_nil, List.length_append, List.length_cons, List.length_nil, Cy, X8, Anx]; exact (I.sub (.cons _ (.cons_cons _ (.cons_cons _ (.cons _ (.cons_cons _ (.cons_cons _ (.cons_cons _ (.cons_cons _ (.cons_cons _ (.refl _)))))))))))
     refine I.dw 2 [] (T0 [0,1,2,3,4,5,6,7,8,9,10,14,15,16,17] (.alt 11 (.alt 12 (.alt 13 (T1 [18,19] (T0 [20,21] .nil)) (T1 [18,13,19] (T0 [20,21] .nil))) (T1 [18,12,13,19] (T0 [20,21] .nil))) (T1 [18,11,12,13,19] (T0 [20,21] .nil)))) O (by kernel_rfl) O (by kernel_rfl) fun wd I => ?_; refine Dq O (I.cx 2) (Y.moveS O)<|Dq O (I.cx 2) (Y.moveP O)<|Dq O (I.cx 2) (Y.nilCheck O)<|Dq O (I.cx 2) (Y.fieldAddr C7 O)<|Dq O (I.cx 2) (Y.fieldAddr Ej O)<|Dq O (I.cx 2) (Y.loadA 5 isAgg23 sizeOf23 O O O O)<|Dq O (I.cx 2) (Y.fieldAddr Dg O)<|Dq O (I.cx 2) (Y.fieldAddr D0 O)<|Dq O (I.cx 2) (Y.loadA 0 isAgg53 sizeOf53 O O O O)<|Dq O (I.cx 2) (Y.fieldAddr Vj O)<|Dq O (I.cx 2) (Y.load 0 isAgg3 O O O)<|Dq O (I.cx 2) (Y.moveS O)<|Dq O (I.cx 2) (Y.fieldAddr Dg O)<|Dq O (I.cx 2) (Y.fieldAddr Ib O)<|Dq O (I.cx 2) (Y.load 0 isAgg3 O O O)<|?_; refine Drw.alts (Alts.more ?_ (Alts.one ?_))
     ·refine One.ww O (X.ret Ah2 (Qg p _ _ _ _ _ _ _ _ I ) O fun w48 I => ⟨(I.cx 2), ?_⟩); refine Drw.alts (Alts.more ?_ (Alts.one ?_))
      ·refine One.ww O (X.lit1 I underlying228 sizeOf53 zeroValue53 O O O fun p49 w49 I => ⟨(I.cx 3), ?_⟩); refine Drw.alts (Alts.more ?_ (Alts.one ?_))
       ·refine One.ww rfl (X.app I 1 0 underlying228 N9 rfl rfl rfl rfl rfl rfl rfl rfl (by (try dsimp only); unfold maxLen; omega) (by (try dsimp only); omega) fun A50 c50 w50 I => ⟨(I.cx 3), ?_⟩); refine Dw O (Xl I (by rfl) (by rfl) (by rfl) [.int _ _] (by rfl) (by rfl) fun p55 w55 I => ⟨(I.cx 4), ?_⟩); refine Dw rfl (X.app I 3 0 underlying24 Jl rfl rfl rfl rfl rfl rfl rfl rfl (by (try dsimp only); unfold maxLen; omega) (by (try dsimp only); omega) fun A56 c56 w56 I => ⟨(I.cx 4), ?_⟩); refine Dq O (I.cx 4) (Y.assignS O)<|Dq O (I.cx 4) (Y.assignS O)<|Dd<|?_; exact ⟨((A50, c50), (A56, c56)), ⟨O, O, trivial⟩, ⟨O, O, O, O, O, O, O, O, trivial⟩, (I.dr 2)⟩
       ·refine One.ww O (Xl I (by rfl) (by rfl) (by rfl) [.int _ _] (by rfl) (by rfl) fun p55 w55 I => ⟨(I.cx 4), ?_⟩); refine Dw rfl (X.app I 2 1 underlying228 N9 rfl rfl rfl rfl rfl rfl rfl rfl (by (try dsimp only); unfold maxLen; omega) (by (try dsimp only); omega) fun A50 c50 w50 I => ⟨(I.cx 4), ?_⟩); refine Dw rfl (X.app I 3 0 underlying24 Jl rfl rfl rfl rfl rfl rfl rfl rfl (by (try dsimp only); unfold maxLen; omega) (by (try dsimp only); omega) fun A56 c56 w56 I => ⟨(I.cx 4), ?_⟩); refine Dq O (I.cx 4) (Y.assignS O)<|Dq O (I.cx 4) (Y.assignS O)<|Dd<|?_; exact ⟨((A50, c50), (A56, c56)), ⟨O, O, trivial⟩, ⟨O, O, O, O, O, O, O, O, trivial⟩, (I.dr 2)⟩
      ·refine One.ww O (Xl I (by rfl) (by rfl) (by rfl) [.int _ _] (by rfl) (by rfl) fun p55 w55 I => ⟨(I.cx 3), ?_⟩); refine Dw rfl (X.lit1 I underlying228 sizeOf53 zeroValue53 rfl rfl rfl fun p49 w49 I => ⟨(I.cx 4), Dw rfl (X.app I 2 0 underlying228 N9 rfl rfl rfl rfl rfl rfl rfl rfl (by (try dsimp only); unfold maxLen; omega) (by (try dsimp only); omega) fun A50 c50 w50 I => ⟨(I.cx 4), ?_⟩)⟩); refine Dw rfl (X.app I 3 1 underlying24 Jl rfl rfl rfl rfl rfl rfl rfl rfl (by (try dsimp only); unfold maxLen; omega) (by (try dsimp only); omega) fun A56 c56 w56 I => ⟨(I.cx 4), ?_⟩); refine Dq O (I.cx 4) (Y.assignS O)<|Dq O (I.cx 4) (Y.assignS O)<|Dd<|?_; exact ⟨((A50, c50), (A56, c56)), ⟨O, O, trivial⟩, ⟨O, O, O, O, O, O, O, O, trivial⟩, (I.dr 2)⟩
     ·refine One.ww O (Xl I (by rfl) (by rfl) (by rfl) [.int _ _] (by rfl) (by rfl) fun p55 w55 I => ⟨(I.cx 3), ?_⟩); refine Dw rfl (X.ret Ah2 (Qg p _ _ _ _ _ _ _ _ I ) rfl fun w48 I => ⟨(I.cx 3), Dw rfl (X.lit1 I underlying228 sizeOf53 zeroValue53 rfl rfl rfl fun p49 w49 I => ⟨(I.cx 4), Dw rfl (X.app I 2 0 underlying228 N9 rfl rfl rfl rfl rfl rfl rfl rfl (by (try dsimp only); unfold maxLen; omega) (by (try dsimp only); omega) fun A50 c50 w50 I => ⟨(I.cx 4), ?_⟩)⟩)⟩); refine Dw rfl (X.app I 3 1 underlying24 Jl rfl rfl rfl rfl rfl rfl rfl rfl (by (try dsimp only); unfold maxLen; omega) (by (try dsimp only); omega) fun A56 c56 w56 I => ⟨(I.cx 4), ?_⟩); refine Dq O (I.cx 4) (Y.assignS O)<|Dq O (I.cx 4) (Y.assignS O)<|Dd<|?_; exact ⟨((A50, c50), (A56, c56)), ⟨O, O, trivial⟩, ⟨O, O, O, O, O, O, O, O, trivial⟩, (I.dr 2)⟩
   refine Wr O<|I.f Dg O O<|I.f M4 O O<|I.yb O (Y.cast (Y.load 0 isAgg4 O O O) (E5 _)) (fun b29 hb29 => I.b O O<|?_); cases b29
   ·replace hb29 := dF hb29; refine On O<|On O<|On O<|On O<|On O<|I.k O O O<|Od O<|?_; exact ⟨_, ⟨O, trivial⟩, ⟨O, O, O, O, O, O, O, O, O, O, trivial⟩, (decide_eq_false (fun h => hb29 h.1)).symm, I⟩
   ·replace hb29 := dT hb29; refine I.f Dg O O<|I.f D0 O O<|I.y O (Y.loadA 0 isAgg53 sizeOf53 O O O O)<|Ow O (X.retB A9x (Ld _ _ _ _ _ _ _ I ) O fun b34 w34 hb34 I => ?_); cases b34
    ·replace hb34 := dF hb34; refine I.q O O<|I.k O O O<|Od O<|?_; exact ⟨_, ⟨O, trivial⟩, ⟨O, O, O, O, O, O, O, O, O, O, trivial⟩, (decide_eq_true ⟨hb29, hb34⟩).symm, I⟩
    ·replace hb34 := dT hb34; refine I.q O O<|I.k O O O<|Od O<|?_; exact ⟨_, ⟨O, trivial⟩, ⟨O, O, O, O, O, O, O, O, O, O, trivial⟩, (decide_eq_false (fun h => h.2 hb34)).symm, I⟩
end
section
open Tryz Go.RowKit YtaanjifekgfemaaGreat.K YtaanjifekgfemaaGreat.W
def Ad (me : Int) (es : NT) (clock : Nat) (l : List Hd) : KS := Ah me ⟨es, clock, []⟩ l
def Aj4 (p : Par) (s : Stt) (ticks : Int) : Stt := { s with lo := (hold p ⟨s.lo, s.hi⟩ ticks).lo, hi := (hold p ⟨s.lo, s.hi⟩ ticks).hi, held := Dk s.held, hops := p.D + 1, good := false }
def O7 (p : Par) (l : List Hd) : Prop := (B2 p (Cg p l)).isSome = true
instance (p : Par) (l : List Hd) : Decidable (O7 p l) := by unfold O7; infer_instance
def K4 (p : Par) (l : List Hd) (s : Stt) (tab : List (Int × Int)) : Stt := if E0 p l then M2 p l s tab else Er p l s
def Am (p : Par) (l : List Hd) (s : Stt) (ticks : Int) (tab : List (Int × Int)) : Stt := if E0 p l ∨ O7 p l then K4 p l s tab else Aj4 p s ticks
def Jj (p : Par) (s : Stt) (h : Hd) : Stt := if h.m.kind = 2 ∧ h.m.good = true then Ai4 p s ⟨h.m.time, h.m.num⟩ else s
def Ce (p : Par) (s : Stt) (l : List Hd) : Stt := l.foldl (Jj p) s
theorem M8 (p : Par) (s : Stt) (l : List Hd) (k : Nat) (h : k < l.length) : Ce p s (l.take (k + 1)) = Jj p (Ce p s (l.take k)) l[k] := by
 unfold Ce; rw [List.take_succ_eq_append_getElem h, List.foldl_append]; rfl
def Ax (p : Par) (l : List Hd) (s : Stt) (ticks : Int) (tab : List (Int × Int)) : Stt := Ce p (B1 p s ticks (Am p l s ticks tab)) l
theorem X2 (p : Par) (s : Stt) (l : List Hd) : (Ce p s l).tab = s.tab := by
  unfold Ce
  induction l generalizing s with
  | nil => rfl
  | cons x l ih =>
    rw [List.foldl_cons, ih]; unfold Jj; split <;> rfl
theorem Ni (p : Par) (l : List Hd) (s : Stt) (ticks : Int) (tab : List (Int × Int)) : (Ax p l s ticks tab).tab = (B1 p s ticks (Am p l s ticks tab)).tab := X2 ..
def P7 (p : Par) (me : Int) (l : List Hd) (s : Stt) (ticks : Int) (tab : List (Int × Int)) : M := A51 p (Ax p l s ticks tab) 2 me false ⟨0, 0⟩
theorem Bmx {c : Sta} (now : Int) (h : c.n ≤ 1073741824) : (c.tick now).n ≤ 1073741824 := by
 unfold Sta.tick; split
 ·exact (by decide : (0 : Int) ≤ 1073741824)
 ·unfold Sta.next; split
  ·exact (by decide : (0 : Int) ≤ 1073741824)
  ·show max c.n 0 + 1 ≤ _; omega
theorem Blz (c : Sta) : c.next.n ≤ 1073741824 := by
 unfold Sta.next; split
 ·exact (by decide : (0 : Int) ≤ 1073741824)
 ·rename_i h; show max c.n 0 + 1 ≤ _; omega
theorem Bc2 {p : Par} {s : Stt} (x : Sta) (h : s.sn ≤ 1073741824) : (Ai4 p s x).sn ≤ 1073741824 := by
 show (s.sta.hear s.time x (L0 p s)).n ≤ _; unfold Sta.hear; split
 ·exact Bmx _ h
 ·exact Blz _
theorem T6 {p : Par} {s : Stt} (l : List Hd) (h : s.sn ≤ 1073741824) : (Ce p s l).sn ≤ 1073741824 := by
  unfold Ce
  induction l generalizing s with
  | nil => exact h
  | cons x l ih =>
    rw [List.foldl_cons]; refine ih ?_; unfold Jj; split
    · exact Bc2 _ h
    · exact h
theorem Uv (p : Par) (s : Stt) (ticks : Int) (nx : Stt) : (B1 p s ticks nx).sn ≤ 1073741824 := by
 have h : (Mt p s ticks nx).sn ≤ 1073741824 := (H3 (J8 s.sta (I1 p s ticks nx) (L0 p (Pp p s ticks nx))) (I1 p s ticks nx)).2.2.2; unfold B1; split
 ·exact h
 ·exact h
theorem Wi {p : Par} {l : List Hd} {s : Stt} {ticks : Int} {tab : List (Int × Int)} (hs : Bn s.tab) (ht : Py p l s tab) (hl : ∀ h ∈ l, Bn h.m.tab) : Bn (Am p l s ticks tab).tab := by
  have h1 : Bn tab := by
    rcases ht with rfl | ⟨h, hh, rfl⟩
    · exact hs
    · exact hl h ((Et p (-1) l).mem (Nw hh).1)
  have h2 : Bn (Er p l s).tab := by
    unfold Er
    cases hc : B2 p (Cg p l) with
    | none => exact hs
    | some h =>
      dsimp only [Ep]; split
      · rename_i hg; exact Cz hg
      · exact hs
  unfold Am K4; split
  · split
    · exact h1
    · exact h2
  · exact hs
end
section
open Tryz Go.RowKit YtaanjifekgfemaaGreat.K YtaanjifekgfemaaGreat.W
attribute [local irreducible] Bg Ak Bb sub neg mag Da mul Dy
theorem Hc : FA 103 9 11 := fun _ _ => by simp [Instr.fieldAt, Instr.sureAddr, go_sem]
theorem Bp1 : CF 174 := fun _ _ => by simp [go_sem]
theorem Bp2 : CF 175 := fun _ _ => by simp [go_sem]
theorem Bp3 : CF 176 := fun _ _ => by simp [go_sem]
theorem Bp4 : CF 177 := fun _ _ => by simp [go_sem]
theorem Bp5 : CF 178 := fun _ _ => by simp [go_sem]
theorem Bp6 : CF 179 := fun _ _ => by simp [go_sem]
set_option maxHeartbeats 4000000 in
theorem Aqz (tbl : List Int) (htl : tbl.length = 20) (b : Nat) (T : TypeId) (p : Par) (hp : p.Ok) (s : Stt) (A : Option Addr) (cap : Nat) (me : Int) (tb mb : Nat) (es : NT) (clock : Nat) (i : Inp) (hT : Bn s.tab) (hne : NearFit es) (hl : i.heard.length ≤ 1000000) (hasc : Asc i.heard) (w0 w : World) (F0 : List Nat) (L G : List Res) (I : St w0 F0 w (frR b T p s A cap [.int .i64 me, .pointer (some ⟨tb, 0, none⟩)] :: Aa tb [.map (some mb)] 204 :: C9 ikE nrV mb (es) (clock) :: L) G) (hpw : Gw tbl ∈ G)
  (hrS : Rds [] G (.slice A (s.tab).length cap) (s.tab).length (lcs (s.tab))) (hrH : Rds [] G (.slice i.HA i.heard.length i.hcap) i.heard.length (Ae hdC i.heard)) (hfit : Lq G i.heard) :
  Calls Tryz.prog 173 #[.pointer (some ⟨b, 0, none⟩), .agg (Fp i).toArray] w fun e w' => ∃ tab A' c' A2 c2 G', e = .returned (.agg (Pq (P7 p me (Ad me es clock i.heard).out s i.ticks tab) A2 c2).toArray) ∧ Py p (Ad me es clock i.heard).out s tab ∧ (∀ r ∈ G, r ∈ G') ∧ Rds [] G' (.slice A' ((Ax p (Ad me es clock i.heard).out s i.ticks tab).tab).length c') ((Ax p (Ad me es clock i.heard).out s i.ticks tab).tab).length (lcs ((Ax p (Ad me es clock i.heard).out s i.ticks tab).tab)) ∧ Rds [] G' (.slice A2 ((Ax p (Ad me es clock i.heard).out s i.ticks tab).tab).length c2) ((Ax p (Ad me es clock i.heard).out s i.ticks tab).tab).length (lcs ((Ax p (Ad me es clock i.heard).out s i.ticks tab).tab)) ∧ St w0 F0 w' (frR b T p (Bm (Ax p (Ad me es clock i.heard).out s i.ticks tab)) A' c' [.int .i64 me, .pointer (some ⟨tb, 0, none⟩)] :: Aa tb [.map (some mb)] 204 :: C9 ikE nrV mb (En 2 (Ad me es clock i.heard).es) (Ad me es clock i.heard).clock :: L) G' := by
 have hsub := Kx me ⟨es, clock, []⟩ i.heard rfl; have hkl : (Ad me es clock i.heard).out.length ≤ 1000000 := Nat.le_trans hsub.length_le hl; have hka : Asc (Ad me es clock i.heard).out := hasc.sublist hsub; have hkf : Lq G (Ad me es clock i.heard).out := fun h hh => hfit h (hsub.mem hh); have hkn : NearFit (Ad me es clock i.heard).es := hne.known (k := ⟨es, clock, []⟩) me i.heard; have hpD := hp.D; have hkk : (Ah me ⟨es, clock, []⟩ i.heard).out.length = (Ad me es clock i.heard).out.length := rfl; refine W.func func173 O ntmps173 O<|Wh O<|Ow O (X.boxA I O fun p3 w3 I => Ow O (X.allocA I zeroValue103 fun p4 w4 I => Od O<|Wq O<|Wh O<|I.p O O<|I.y O (Y.isNil underlying154 O O)<|Od O<|Wu O O<|Wk O<|Wh O<|I.p O O<|I.f Vx O O<|I.y O (Y.load 1 isAgg97 O O O)<|Oc O Bp1 O ?_)); refine Ab (Ap8 b T p s A cap me tb mb es clock i.heard hl i.HA i.hcap _ _ _ _ _ (I.up_4.up_4.up_4) hrH) O ?_; clear I; rintro e w16 ⟨A16, c16, rfl, I⟩; refine ⟨_, O, ?_⟩; refine I.y O (Y.assignS O)<|Ds O O<|I.p O O<|I.t O O<|I.f Vk O O<|I.y O (Y.load 1 isAgg156 O O O)<|Oc O Bp2 O ?_; refine Ab (At7 tb mb (Ad me es clock i.heard).es (Ad me es clock i.heard).clock 2 hkn _ _ _ _ _ (I.up_3.up_3)) O ?_; clear I; rintro e w21 ⟨v21, rfl, I⟩; replace I := I.dn3.dn3; refine ⟨_, O, ?_⟩; refine Ds O O<|I.p O O<|I.s O O<|I.p O O<|I.t O O<|I.f C7 O O<|I.f Be O O<|I.y O (Y.loadA 1 isAgg57 sizeOf57 O O O O)<|Oc O Bp3 O ?_; refine Ab (Aw5 tbl htl b T p s A cap _ (Ad me es clock i.heard).out hkl hka A16 c16 s hT A cap _ _ _ _ _ I.up_1 hpw (Rds.rowL 0 O) hkf hrS) O ?_; clear I; rintro e w30 ⟨tab, b32, A32, c32, G1, rfl, hb32, htab, hG1, hr32, I⟩; replace I := I.dn1; have hkf1 : Lq G1 (Ad me es clock i.heard).out := fun h hh => ⟨(hkf h hh).1, (hkf h hh).2.moreG hG1⟩; have hrS1 := hrS.moreG hG1; refine ⟨_, O, I.y O (Y.moveU O)<|I.e O O O<|I.e O O O<|Ow O (X.allocA I zeroValue57 fun p6 w6 I => Ow O (X.storeS I 0 sizeOf57 O O O O O (lZ O) O O fun _ I => I.g O O<|Od O<|Wq O<|?_))⟩; refine W.cut [(0, .pointer _), (3, .pointer _), (4, .pointer _), (5, .slice _ _ _), (6, .pointer _)] (fun x : Bool × (Option Addr × Nat) => [(7, .bool x.1)]) (fun x w => (x.1 = decide (E0 p (Ad me es clock i.heard).out ∨ O7 p (Ad me es clock i.heard).out) ∧ Rds [] G1 (.slice x.2.1 ((K4 p (Ad me es clock i.heard).out s tab).tab).length x.2.2) ((K4 p (Ad me es clock i.heard).out s tab).tab).length (lcs ((K4 p (Ad me es clock i.heard).out s tab).tab))) ∧ St w0 F0 w (Aa p6 (Fk (K4 p (Ad me es clock i.heard).out s tab) x.2.1 x.2.2) 57 :: Af (.slice A16 (Ad me es clock i.heard).out.length c16) 138 15 (Ad me es clock i.heard).out.length (Ae hdC (Ad me es clock i.heard).out) :: frR b T p (s) A cap [.int .i64 me, .pointer (some ⟨tb, 0, none⟩)] :: Aa tb [.map (some mb)] 204 :: C9 ikE nrV mb (En 2 (Ad me es clock i.heard).es) (Ad me es clock i.heard).clock :: Aa p4 [.int .i64 0, .int .i64 0, .int .i64 0, .int .i64 0, .int .i64 0, .int .i64 0, .bool false, .bool false, .int .i64 0, .int .i64 0, .int .i64 0, .int .i64 0, .int .i64 0, .slice none 0 0] 103 :: Aa p3 (Fp i) 99 :: L) G1) ⟨O, O, O, O, O, trivial⟩ ?_ ?_
 rotate_left
 ·clear I; rintro ⟨b7, ⟨A6, c6⟩⟩ j w7 ⟨⟨hb7, hr6⟩, I⟩; dsimp only at hb7 hr6; refine Wq O ?_; refine W.cut [(0, .pointer _), (3, .pointer _), (4, .pointer _), (5, .slice _ _ _), (6, .pointer _)] (fun _ : Option Addr × Nat => []) (fun x w => Rds [] G1 (.slice x.1 ((Am p (Ad me es clock i.heard).out s i.ticks tab).tab).length x.2) ((Am p (Ad me es clock i.heard).out s i.ticks tab).tab).length (lcs ((Am p (Ad me es clock i.heard).out s i.ticks tab).tab)) ∧ St w0 F0 w (Aa p6 (Fk ((Am p (Ad me es clock i.heard).out s i.ticks tab)) x.1 x.2) 57 :: Af (.slice A16 (Ad me es clock i.heard).out.length c16) 138 15 (Ad me es clock i.heard).out.length (Ae hdC (Ad me es clock i.heard).out) :: frR b T p (s) A cap [.int .i64 me, .pointer (some ⟨tb, 0, none⟩)] :: Aa tb [.map (some mb)] 204 :: C9 ikE nrV mb (En 2 (Ad me es clock i.heard).es) (Ad me es clock i.heard).clock :: Aa p4 [.int .i64 0, .int .i64 0, .int .i64 0, .int .i64 0, .int .i64 0, .int .i64 0, .bool false, .bool false, .int .i64 0, .int .i64 0, .int .i64 0, .int .i64 0, .int .i64 0, .slice none 0 0] 103 :: Aa p3 (Fp i) 99 :: L) G1) ⟨O, O, O, O, O, trivial⟩ ?_ ?_
  rotate_left
  ·clear I; rintro ⟨A7, c7⟩ j w8 ⟨hr7, I⟩; dsimp only at hr7; refine Wq O ?_; have hnt : Bn (Am p (Ad me es clock i.heard).out s i.ticks tab).tab := Wi hT htab (fun h hh => (hkf h hh).1); refine I.dv [6] (T0 [0,1,2,3,4,5] (.op 6 1 .nil)) O (by kernel_rfl) O (by kernel_rfl) fun wd I => ?_; refine I.zp O O<|I.zt O O<|I.zf C7 O O<|I.zf Q8 O O<|I.zl 6 O O O O<|I.z O (Y.loadA 0 isAgg57 sizeOf57 O O O O)<|Drw.z O O O O (X.call Bgq O<|?_); refine Ab (Zj b T p s A cap _ i.ticks (Am p (Ad me es clock i.heard).out s i.ticks tab) A7 c7 _ _ _ _ _ I.up_2 hnt.1 hnt.2 hr7) O ?_; clear I; rintro e w90 ⟨A90, c90, rfl, I⟩; replace I := I.dn2; refine ⟨_, O, ?_⟩; refine Dd<|Wq O<|Wq O<|?_; have hbt : Bn (Ax p (Ad me es clock i.heard).out s i.ticks tab).tab := by rw [Ni]; exact Su p s i.ticks _
   have hbn : (Ax p (Ad me es clock i.heard).out s i.ticks tab).sn ≤ 9223372036854775806 := by
    have h1 : (Ax p (Ad me es clock i.heard).out s i.ticks tab).sn ≤ 1073741824 := T6 _ (Uv p s i.ticks _); omega
   refine Wr O<|I.s O O<|I.y O (Y.lenS underlying97 O)<|I.u O O<|Od O<|Wb O<|?_; refine W.loop (γ := Nat) [(0, .pointer _), (4, .pointer _), (91, .slice _ _ _), (92, .int _ _)] (fun k => [(93, .int .i64 (k : Int))]) (fun k w => k ≤ (Ad me es clock i.heard).out.length ∧ St w0 F0 w (Aa p6 (Fk ((Am p (Ad me es clock i.heard).out s i.ticks tab)) A7 c7) 57 :: Af (.slice A16 (Ad me es clock i.heard).out.length c16) 138 15 (Ad me es clock i.heard).out.length (Ae hdC (Ad me es clock i.heard).out) :: frR b T p ((Ce p (B1 p s i.ticks (Am p (Ad me es clock i.heard).out s i.ticks tab)) ((Ad me es clock i.heard).out.take k))) A90 c90 [.int .i64 me, .pointer (some ⟨tb, 0, none⟩)] :: Aa tb [.map (some mb)] 204 :: C9 ikE nrV mb (En 2 (Ad me es clock i.heard).es) (Ad me es clock i.heard).clock :: Aa p4 [.int .i64 0, .int .i64 0, .int .i64 0, .int .i64 0, .int .i64 0, .int .i64 0, .bool false, .bool false, .int .i64 0, .int .i64 0, .int .i64 0, .int .i64 0, .int .i64 0, .slice none 0 0] 103 :: Aa p3 (Fp i) 99 :: L) (Af (.slice A90 (B1 p s i.ticks (Am p (Ad me es clock i.heard).out s i.ticks tab)).tab.length c90) 114 2 (B1 p s i.ticks (Am p (Ad me es clock i.heard).out s i.ticks tab)).tab.length (lcs (B1 p s i.ticks (Am p (Ad me es clock i.heard).out s i.ticks tab)).tab) :: G1)) (fun k => (Ad me es clock i.heard).out.length - k) (0) O ⟨O, O, O, O, trivial⟩ ?_ ?_ ?_
   ·exact ⟨O, trivial⟩
   ·exact ⟨by omega, I⟩
   ·clear I; rintro k j w12 ⟨hk, I⟩; refine Wh O<|I.v O O O (fun b94 hb94 => Od O<|Wq O<|?_); cases b94
    ·replace hb94 := dF hb94; refine Wu O O<|W.exit O<|Wq O<|?_; obtain rfl : k = (Ad me es clock i.heard).out.length := by omega
     have e1 : (Ce p (B1 p s i.ticks (Am p (Ad me es clock i.heard).out s i.ticks tab)) ((Ad me es clock i.heard).out.take (Ad me es clock i.heard).out.length)) = (Ax p (Ad me es clock i.heard).out s i.ticks tab) := by unfold Ax; rw [List.take_length]
     rw [e1] at I; have hrb : Rds [] (Af (.slice A90 (B1 p s i.ticks (Am p (Ad me es clock i.heard).out s i.ticks tab)).tab.length c90) 114 2 (B1 p s i.ticks (Am p (Ad me es clock i.heard).out s i.ticks tab)).tab.length (lcs (B1 p s i.ticks (Am p (Ad me es clock i.heard).out s i.ticks tab)).tab) :: G1) (.slice A90 (Ax p (Ad me es clock i.heard).out s i.ticks tab).tab.length c90) (Ax p (Ad me es clock i.heard).out s i.ticks tab).tab.length (lcs (Ax p (Ad me es clock i.heard).out s i.ticks tab).tab) := by rw [Ni]; exact Rds.rowG 0 O
     refine I.dv [8,9] (T0 [0,1,2,3,4,5,6,7] (T1 [8,9] .nil)) O (by kernel_rfl) O (by kernel_rfl) fun wd I => ?_; refine I.zp O O<|I.zt O O<|I.zf C7 O O<|I.zp O O<|I.zt O O<|I.zf Ahq O O<|I.zl 2 O O O O<|I.z O (Mr O)<|Drw.z O O O O (X.call Bgx O<|?_); refine Ab (Al2 b T p (Ax p (Ad me es clock i.heard).out s i.ticks tab) A90 c90 _ 2 me false 0 0 hbt hbn _ _ _ _ _ I.up_2 hrb) O ?_; clear I; rintro e w122 ⟨A22, c22, rfl, I⟩; replace I := I.dn2; refine ⟨_, O, ?_⟩; refine Drw.z O O O O (X.storeS I 5 sizeOf103 O O O O O (lZ O) O O fun _ I => Dd<|We O<|⟨_, Ac.cell results173 O (Bd isAgg103 sizeOf103 5 I O O), ?_⟩); exact ⟨tab, A90, c90, A22, c22, _, O, htab, fun r hr => .tail _ (.tail _ (hG1 r hr)), hrb.consG _, Rds.rowG 0 O, (I.sub (.cons _ (.cons _ (.cons_cons _ (.cons_cons _ (.cons_cons _ (.cons _ (.cons _ (.refl _)))))))))⟩
    ·replace hb94 := dT hb94; refine Wt O O<|Wk O<|Wq O<|Wb O<|Wq O<|?_; have hk1 : k < (Ad me es clock i.heard).out.length := by omega
     have hhn : (Ce p (B1 p s i.ticks (Am p (Ad me es clock i.heard).out s i.ticks tab)) ((Ad me es clock i.heard).out.take k)).sn ≤ 9223372036854775806 := by
      have h1 : (Ce p (B1 p s i.ticks (Am p (Ad me es clock i.heard).out s i.ticks tab)) ((Ad me es clock i.heard).out.take k)).sn ≤ 1073741824 := T6 _ (Uv p s i.ticks _); omega
     refine Wr O<|I.y O (Y.indexAddr underlying97 sizeOf138 O O ((Rds.sl (Rds.rowL 1 (by rfl)) I).ne (Bi B5 (by decide) (by omega))) (by omega))<|?_; refine I.y O (Y.loadSlA isAgg138 sizeOf138 O (Rds.rowL 1 O) (Bo B5 (Ad me es clock i.heard).out k hk1) (B5 _))<|Ow O (X.allocA I zeroValue138 fun p9 w9 I => Ow O (X.storeS I 0 sizeOf138 O O O O O (lZ O) O O fun _ I => Od O<|Wq O<|?_)); refine W.cut [(0, .pointer _), (4, .pointer _), (9, .pointer _), (91, .slice _ _ _), (92, .int _ _), (93, .int _ _)] (fun x : Bool => [(105, .bool x)]) (fun x w => x = decide ((Ad me es clock i.heard).out[k].m.kind = 2 ∧ (Ad me es clock i.heard).out[k].m.good = true) ∧ St w0 F0 w (Aa p9 (hdC (Ad me es clock i.heard).out[k]) 138 :: Aa p6 (Fk ((Am p (Ad me es clock i.heard).out s i.ticks tab)) A7 c7) 57 :: Af (.slice A16 (Ad me es clock i.heard).out.length c16) 138 15 (Ad me es clock i.heard).out.length (Ae hdC (Ad me es clock i.heard).out) :: frR b T p ((Ce p (B1 p s i.ticks (Am p (Ad me es clock i.heard).out s i.ticks tab)) ((Ad me es clock i.heard).out.take k))) A90 c90 [.int .i64 me, .pointer (some ⟨tb, 0, none⟩)] :: Aa tb [.map (some mb)] 204 :: C9 ikE nrV mb (En 2 (Ad me es clock i.heard).es) (Ad me es clock i.heard).clock :: Aa p4 [.int .i64 0, .int .i64 0, .int .i64 0, .int .i64 0, .int .i64 0, .int .i64 0, .bool false, .bool false, .int .i64 0, .int .i64 0, .int .i64 0, .int .i64 0, .int .i64 0, .slice none 0 0] 103 :: Aa p3 (Fp i) 99 :: L) (Af (.slice A90 (B1 p s i.ticks (Am p (Ad me es clock i.heard).out s i.ticks tab)).tab.length c90) 114 2 (B1 p s i.ticks (Am p (Ad me es clock i.heard).out s i.ticks tab)).tab.length (lcs (B1 p s i.ticks (Am p (Ad me es clock i.heard).out s i.ticks tab)).tab) :: G1)) ⟨O, O, O, O, O, O, trivial⟩ ?_ ?_
     rotate_left
     ·clear I; rintro b105 j w15 ⟨hb105, I⟩; cases b105
      ·replace hb105 := dF hb105; refine Wu O O<|Wk O<|Wr O<|I.j O O O (by omega)<|I.u O O<|Od O<|?_; have e2 := (M8 p (B1 p s i.ticks (Am p (Ad me es clock i.heard).out s i.ticks tab)) (Ad me es clock i.heard).out k hk1).trans (if_neg hb105); exact ⟨k + 1, ⟨O, trivial⟩, ⟨O, O, O, O, trivial⟩, ⟨by omega, by rw [e2]; exact (I.dr 1)⟩, by omega⟩
      ·replace hb105 := dT hb105; refine Wt O O<|W.drawn O (by kernel_rfl) (Ctx _ _ (_) (_)) [6] (.op 0 0 (.op 1 0 (.op 2 0 (.op 3 0 (.op 4 0 (.op 5 0 (.op 6 1 .nil))))))) O (by kernel_rfl) I.drew.ctx<|?_; replace I := I.drew; generalize World.drew _ = wd at I ⊢; refine I.zp O O<|I.zt O O<|I.zf C7 O O<|I.zf Dg O O<|I.zf Hc O O<|I.z O (Y.loadA 0 isAgg55 sizeOf55 O O O O)<|Drw.z O O O O (X.ret Bp6 (dn3 (Ad5 b T p (Ce p (B1 p s i.ticks (Am p (Ad me es clock i.heard).out s i.ticks tab)) ((Ad me es clock i.heard).out.take k)) A90 c90 _ ⟨(Ad me es clock i.heard).out[k].m.time, (Ad me es clock i.heard).out[k].m.num⟩ _ _ _ _ _ I.up_3 hhn)) O fun _ I => Dd<|Wr O<|I.j O O O (by omega)<|I.u O O<|Od O<|?_); have e2 := (M8 p (B1 p s i.ticks (Am p (Ad me es clock i.heard).out s i.ticks tab)) (Ad me es clock i.heard).out k hk1).trans (if_pos hb105); exact ⟨k + 1, ⟨O, trivial⟩, ⟨O, O, O, O, trivial⟩, ⟨by omega, by rw [e2]; exact (I.dr 1)⟩, by omega⟩
     refine Wr O<|I.f Dg O O<|I.f Ha O O<|I.l 0 O O O O<|I.Y O O O (fun b100 hb100 => I.b O O<|?_); cases b100
     ·replace hb100 := dF hb100; refine On O<|On O<|On O<|I.k O O O<|Od O<|?_; exact ⟨_, ⟨O, trivial⟩, ⟨O, O, O, O, O, O, trivial⟩, (decide_eq_false (fun h => hb100 h.1)).symm, I⟩
     ·replace hb100 := dT hb100; refine I.f Dg O O<|I.f M4 O O<|I.yb O (Y.cast (Y.load 0 isAgg4 O O O) (E5 _)) (fun b104 hb104 => I.k O O O<|Od O<|?_); exact ⟨_, ⟨O, trivial⟩, ⟨O, O, O, O, O, O, trivial⟩, hb104.trans (decide_eq_decide.2 ⟨fun h => ⟨hb100, h⟩, fun h => h.2⟩), I⟩
  refine Wh O<|I.b O O<|?_; cases b7
  ·replace hb7 := dF hb7; refine I.q O O<|Od O<|Wt O O<|Wh O<|I.p O O<|I.t O O<|I.f C7 O O<|I.f Be O O<|I.y O (Y.loadA 2 isAgg57 sizeOf57 O O O O)<|Ow O (X.storeS I 0 sizeOf57 O O O O O (lZ O) O O fun _ I => Od O<|W.drawn O (by kernel_rfl) (Ctx _ _ (_) (_)) [] (.op 0 0 (.op 1 0 (.op 2 0 (.op 3 0 (.op 4 0 (.op 5 0 (.op 6 0 (.op 7 0 (.op 8 0 (.op 9 0 (.op 10 0 (.op 11 0 (.op 12 0 (.op 14 0 (.op 15 0 (.op 16 0 (.op 17 0 (.op 18 0 (.op 19 0 (.op 21 0 (.op 22 0 (.op 23 0 (.op 24 0 (.op 25 0 (.op 13 1 (.op 27 0 (.op 20 1 (.op 26 1 (.op 28 1 (.op 29 0 (.op 30 1 (.op 31 0 (.op 32 1 (.op 33 0 (.op 34 1 .nil))))))))))))))))))))))))))))))))))) O (by kernel_rfl) (I.drew.cx 1)<|?_); replace I := I.drew; generalize World.drew _ = wd at I ⊢; refine Dq O (I.cx 1) (Y.moveP O)<|Dq O (I.cx 1) (Y.nilCheck O)<|Dq O (I.cx 1) (Y.fieldAddr C7 O)<|Dq O (I.cx 1) (Y.fieldAddr Ej O)<|Dq O (I.cx 1) (Y.loadA 1 isAgg23 sizeOf23 O O O O)<|Dq O (I.cx 1) (Y.moveP O)<|Dq O (I.cx 1) (Y.nilCheck O)<|Dq O (I.cx 1) (Y.fieldAddr C7 O)<|Dq O (I.cx 1) (Y.fieldAddr Be O)<|Dq O (I.cx 1) (Y.fieldAddr Br O)<|Dq O (I.cx 1) (Y.loadA 1 isAgg53 sizeOf53 O O O O)<|Dq O (I.cx 1) (Y.fieldAddr Q8 O)<|Dq O (I.cx 1) (Y.load 5 isAgg3 O O O)<|Dq O (I.cx 1) (Y.moveP O)<|Dq O (I.cx 1) (Y.nilCheck O)<|Dq O (I.cx 1) (Y.fieldAddr C7 O)<|Dq O (I.cx 1) (Y.fieldAddr Be O)<|Dq O (I.cx 1) (Y.fieldAddr Bt O)<|Dq O (I.cx 1) (Y.load 1 isAgg3 O O O)<|Dq O (I.cx 1) (Y.moveP O)<|Dq O (I.cx 1) (Y.nilCheck O)<|Dq O (I.cx 1) (Y.fieldAddr C7 O)<|Dq O (I.cx 1) (Y.fieldAddr Ej O)<|Dq O (I.cx 1) (Y.loadA 1 isAgg23 sizeOf23 O O O O)<|Dw O (X.ret Bg8 (X4 p _ _ _ _ _ _ _ _ I ) O fun _ I => ⟨(I.cx 1), Dq O (I.cx 1) (Y.fieldAddr Br O)<|Dw O (X.ret Ah3 (Jo _ _ _ _ _ _ I ) O fun _ I => ⟨(I.cx 1), Dw O (X.ret Bp5 (A03 p _ _ _ _ _ I (by omega)) O fun _ I => ⟨(I.cx 1), Dw O (X.storeS I 0 sizeOf53 O O O O O (lZ O) O O fun _ I => ⟨(I.cx 1), Dq O (I.cx 1) (Y.fieldAddr Bt O)<|Dw O (X.storeV I 0 (.int _ _) sizeOf3 O O O O (lZ O) O O fun _ I => ⟨(I.cx 1), Dq O (I.cx 1) (Y.fieldAddr B3 O)<|Dw O (X.storeV I 0 (.int _ _) sizeOf3 O O O O (lZ O) O O fun _ I => ⟨(I.cx 1), Dq O (I.cx 1) (Y.fieldAddr Bl O)<|Dw O (X.storeV I 0 (.bool _) sizeOf4 O O O O (lZ O) O O fun _ I => ⟨(I.cx 1), Dd<|?_⟩)⟩)⟩)⟩)⟩)⟩)⟩); have hq : (Am p (Ad me es clock i.heard).out s i.ticks tab) = Aj4 p s i.ticks := if_neg hb7; exact ⟨(A, cap), trivial, ⟨O, O, O, O, O, trivial⟩, by rw [hq]; exact hrS1, by rw [hq]; exact I⟩
  ·replace hb7 := dT hb7; refine I.q O O<|Od O<|Wu O O<|Wk O<|?_; have hq : (Am p (Ad me es clock i.heard).out s i.ticks tab) = K4 p (Ad me es clock i.heard).out s tab := if_pos hb7; exact ⟨(A6, c6), trivial, ⟨O, O, O, O, O, trivial⟩, by rw [hq]; exact hr6, by rw [hq]; exact I⟩
 refine Wh O<|I.b O O<|?_; cases b32
 ·replace hb32 := dF hb32; refine I.q O O<|Od O<|Wt O O<|Wr O<|I.p O O<|I.s O O<|I.p O O<|I.t O O<|I.f C7 O O<|I.f Be O O<|I.y O (Y.loadA 2 isAgg57 sizeOf57 O O O O)<|Oc O Bp4 O ?_; refine Ab (Ac1 b T p hp s A cap _ (Ad me es clock i.heard).out hkl A16 c16 s A cap _ _ _ _ _ I.up_2 (Rds.rowL 1 O) hkf1 hrS1) O ?_; clear I; rintro e w43 ⟨b45, A45, c45, rfl, hb45, hr45, I⟩; replace I := I.dn2; refine ⟨_, O, ?_⟩; refine I.y O (Y.moveU O)<|I.e O O O<|I.e O O O<|Ow O (X.storeS I 0 sizeOf57 O O O O O (lZ O) O O fun _ I => I.g O O<|Od O<|?_); have hq : K4 p (Ad me es clock i.heard).out s tab = Er p (Ad me es clock i.heard).out s := if_neg hb32; exact ⟨(b45, A45, c45), ⟨O, trivial⟩, ⟨O, O, O, O, O, trivial⟩, ⟨hb45.trans (decide_eq_decide.2 ⟨Or.inr, fun h => h.resolve_left hb32⟩), by rw [hq]; exact hr45⟩, by rw [hq]; exact I⟩
 ·replace hb32 := dT hb32; refine I.q O O<|Od O<|Wu O O<|Wk O<|?_; have hq : K4 p (Ad me es clock i.heard).out s tab = M2 p (Ad me es clock i.heard).out s tab := if_pos hb32; have hq2 : Q0 p (Ad me es clock i.heard).out s tab = M2 p (Ad me es clock i.heard).out s tab := if_pos hb32; rw [hq2] at hr32 I; exact ⟨(true, A32, c32), ⟨O, trivial⟩, ⟨O, O, O, O, O, trivial⟩, ⟨(decide_eq_true (Or.inl hb32)).symm, by rw [hq]; exact hr32⟩, by rw [hq]; exact I⟩
end
end Go.Proofs.YtaanjifekgfemaaGreat.Cl
namespace Go.Proofs.YtaanjifekgfemaaGreat.K
section
open Tryz Go.RowKit
section
variable {P : Program} {n : Fr} {c : Code} {Q : Ez} {ρ : Env} {w0 w : World} {F0 : List Nat} {L G : List Res} {S : World → Prop} {ty t t' : TypeId} {x y z : Operand}
def Z5 (P : Program) (t : TypeId) (name : String) (f : FuncId) : Prop := ∀ (p : Option Addr) (fuel : Nat) (w : World), (method (fuel + 1) t (.pointer p) name).run P w = .ok (f, .pointer p) w
theorem A07 {t e : TypeId} {name : String} {f : FuncId} {ti : TypeInfo} (hi : P.info? t = some ti) (hu : P.underlying t = some (.pointer e)) (hm : (ti.methods.find? (·.name == name)).map (fun m => (m.path.toList, m.func)) = some ([], some (f, true))) : Z5 P t name f := by
 intro p fuel w; obtain ⟨m, h1, h2⟩ := Option.map_eq_some_iff.1 hm; simp only [Prod.mk.injEq] at h2; simp [method, typeInfo, hi, h1, h2.1, h2.2, follow, receiverAt, run_underlying hu, Place.get]
theorem X.callI {f : FuncId} {k : Nat} {name : String} {xs : Array Operand} {tys : Array TypeId} {bt : TypeId} {p : Option Addr} (hm : Z5 P bt name f) (hfc : ∀ args w, (callFunc f args).run P w = .ok (.enter f args) w) (hx : ρ k = .iface bt (.pointer p)) {vs : List Value} (hv : (xs.toList.map (ev ρ)) = vs) {K : Value → World → Prop} (hc : Calls P f (.pointer p :: vs).toArray w (fun e w' => ∃ v, e = .returned v ∧ K v w')) :
  X P ρ w (.call { callee := .invoke (.tmp k) name, args := xs, argTypes := tys }) ty K := by
 intro a ops Q o ho _ ha hw; refine S4 hw (f := f) (args := (.pointer p :: vs).toArray) ?_ (R := fun e w' => ∃ v, e = .returned v ∧ K v w') hc ?_
 ·have h1 : ev ρ (.tmp k) = .iface bt (.pointer p) := hx; simp only [execOp, ho, ha]; simp only [resolve, J7 hv, h1]; have hd : 0 < Made.depth := by decide
  obtain ⟨m, hm1⟩ : ∃ m, P.types.size + Made.depth = m + 1 := ⟨P.types.size + Made.depth - 1, by omega⟩; have h2 := hm p m w; simp [invoke, callMethod, hm1, h2, hfc]
 ·rintro e w' ⟨v, rfl, h⟩; exact ⟨v, rfl, v, rfl, h⟩
theorem Y.makeIface {e : TypeId} (ht : P.underlying t = some (.pointer e)) {p : Option Addr} (hx : ev ρ x = .pointer p) : Y P S ρ (.makeInterface t x) ty (.iface t (.pointer p)) := fun w _ o ho _ => by
 simp [execOp, ho, Instr.makeInterface, run_underlying ht, hx]
theorem Y.loadCell (hag : ∀ w, (isAgg t).run P w = .ok false w) {b i m cp : Nat} (hx : ev ρ x = .pointer (some ⟨b, i, none⟩)) {xs : List Value} (hr : Rds L G (.slice (some ⟨b, 0, none⟩) m cp) m xs) {v : Value} (hc : xs[i]? = some v) : Y P (Ctx w0 F0 L G) ρ (.load t x) ty v :=
 Y.loadAt hx fun w hS => C0 hag (by
  obtain ⟨A', cap, he, hcap, hA⟩ := hS.sl hr; injection he with he; subst he; have hk : i < xs.length := (List.getElem?_eq_some_iff.1 hc).1; obtain ⟨ad, had, hc'⟩ := hA (by intro h; rw [h] at hk; simp at hk); injection had with had; subst had; have := hc' i hk; rw [B6, Nat.zero_add] at this
  rw [this, hc])
theorem St.up_9 {x0 x1 x2 x3 x4 x5 x6 x7 x8 a : Res} (h : St w0 F0 w (x0 :: x1 :: x2 :: x3 :: x4 :: x5 :: x6 :: x7 :: x8 :: a :: L) G) : St w0 F0 w (a :: x0 :: x1 :: x2 :: x3 :: x4 :: x5 :: x6 :: x7 :: x8 :: L) G := h.perm (List.perm_middle (l₁ := [x0, x1, x2, x3, x4, x5, x6, x7, x8]))
theorem St.dn9 {x0 x1 x2 x3 x4 x5 x6 x7 x8 a : Res} (h : St w0 F0 w (a :: x0 :: x1 :: x2 :: x3 :: x4 :: x5 :: x6 :: x7 :: x8 :: L) G) : St w0 F0 w (x0 :: x1 :: x2 :: x3 :: x4 :: x5 :: x6 :: x7 :: x8 :: a :: L) G := h.perm (List.perm_middle (l₁ := [x0, x1, x2, x3, x4, x5, x6, x7, x8])).symm
theorem St.foc {pre mid post : List Res} {i : Nat} {r : Res} (h : St w0 F0 w (pre ++ (mid ++ post)) G) (hi : mid[i]? = some r) : St w0 F0 w (r :: (pre ++ (mid.eraseIdx i ++ post))) G :=
 h.perm (by
  have h1 : (mid ++ post).Perm ((r :: mid.eraseIdx i) ++ post) := (Hg hi).append_right post
  exact (h1.append_left pre).trans List.perm_middle)
theorem St.unfoc {pre mid post : List Res} {i : Nat} {r r' : Res} (h : St w0 F0 w (r' :: (pre ++ (mid.eraseIdx i ++ post))) G) (hi : mid[i]? = some r) : St w0 F0 w (pre ++ (mid.set i r' ++ post)) G :=
 h.perm (by
  have h1 : ((r' :: mid.eraseIdx i) ++ post).Perm (mid.set i r' ++ post) := (Gp hi).append_right post
  exact (List.perm_middle.symm).trans (h1.append_left pre))
theorem Jz {α : Type} {l : List (List α)} {i : Nat} {r : List α} (h : l[i]? = some r) : l.flatten.Perm (r ++ (l.eraseIdx i).flatten) := by
  induction l generalizing i with
  | nil => simp at h
  | cons x l ih =>
    cases i with
    | zero => simp at h; subst h; simp
    | succ i =>
      simp at h; have := ih h; simp only [List.flatten_cons, List.eraseIdx_cons_succ]; refine (this.append_left x).trans ?_; rw [← List.append_assoc, ← List.append_assoc]; exact List.perm_append_comm.append_right _
theorem O5 {α : Type} {l : List (List α)} {i : Nat} {r r' : List α} (h : l[i]? = some r) : (r' ++ (l.eraseIdx i).flatten).Perm (l.set i r').flatten := by
  have h1 : (l.set i r')[i]? = some r' := by
    have := (List.getElem?_eq_some_iff.1 h).1; simp [this]
  have h2 : (l.set i r').eraseIdx i = l.eraseIdx i := by
    clear h h1
    induction l generalizing i with
    | nil => rfl
    | cons x l ih =>
      cases i with
      | zero => rfl
      | succ i => simp [ih]
  have := Jz h1; rw [h2] at this; exact this.symm
theorem St.focF {pre post : List Res} {mid : List (List Res)} {i : Nat} {r : List Res} (h : St w0 F0 w (pre ++ (mid.flatten ++ post)) G) (hi : mid[i]? = some r) : St w0 F0 w (r ++ (pre ++ ((mid.eraseIdx i).flatten ++ post))) G :=
 h.perm (by
  refine (((Jz hi).append_right post).append_left pre).trans ?_; rw [List.append_assoc, ← List.append_assoc pre r, ← List.append_assoc r pre]
  exact List.perm_append_comm.append_right _)
theorem St.unfocF {pre post : List Res} {mid : List (List Res)} {i : Nat} {r r' : List Res} (h : St w0 F0 w (r' ++ (pre ++ ((mid.eraseIdx i).flatten ++ post))) G) (hi : mid[i]? = some r) : St w0 F0 w (pre ++ ((mid.set i r').flatten ++ post)) G :=
 h.perm (by
  refine List.Perm.trans ?_ (((O5 hi).append_right post).append_left pre); rw [List.append_assoc, ← List.append_assoc pre r', ← List.append_assoc r' pre]
  exact List.perm_append_comm.append_right _)
end
end
end Go.Proofs.YtaanjifekgfemaaGreat.K
namespace Go.Proofs.YtaanjifekgfemaaGreat.LN
section
open Tryz Go.RowKit YtaanjifekgfemaaGreat.K
abbrev It := ByteArray × Int
abbrev e0 : It := (⟨#[]⟩, 0)
@[reducible] def itc (x : It) : List Value := [.string x.1, .int .i64 x.2]
def rgc (l : List It) : List Value := l.flatMap itc
structure Rw where
  ring : List It
  first : Nat
  count : Nat
def Rw.cells (r : Rw) : List Value := rgc r.ring ++ [.int .i64 (r.first : Int), .int .i64 (r.count : Int)]
structure Rw.Wf (r : Rw) : Prop where
  len : r.ring.length = 64
  f : r.first < 64
  c : r.count ≤ 64
theorem Eb (l : List It) : (rgc l).length = l.length * 2 := by
 induction l with
 | nil => rfl
 | cons x l ih => simp [rgc] at ih ⊢; omega
theorem Sg (x : It) (l : List It) : rgc (x :: l) = .string x.1 :: .int .i64 x.2 :: rgc l := rfl
theorem Akq : ∀ (l : List It) (k : Nat), k < l.length → ((rgc l).drop (k * 2)).take 2 = itc (l.getD k e0)
  | [], k, h => by simp at h
  | x :: l, 0, h => rfl
  | x :: l, k + 1, h => by
    rw [Sg, show (k + 1) * 2 = k * 2 + 1 + 1 by omega, List.drop_succ_cons, List.drop_succ_cons]; simpa using Akq l k (by simpa using h)
theorem Ak9 : ∀ (l : List It) (k : Nat) (y : It), k < l.length → splice (rgc l) (k * 2) (itc y) = rgc (l.set k y)
  | [], k, y, h => by simp at h
  | x :: l, 0, y, h => by simp [splice, rgc, itc]
  | x :: l, k + 1, y, h => by
    have ih := Ak9 l k y (by simpa using h); unfold splice at ih ⊢; rw [Sg, List.set_cons_succ, Sg, ← ih, show (k + 1) * 2 = k * 2 + 1 + 1 by omega]; simp only [List.take_succ_cons, List.cons_append, itc, List.length_cons, List.length_nil]; rw [show k * 2 + 1 + 1 + (0 + 1 + 1) = k * 2 + (0 + 1 + 1) + 1 + 1 by omega, List.drop_succ_cons, List.drop_succ_cons]
theorem Ci {r : Rw} (h : r.Wf) : r.cells.length = 130 := by simp [Rw.cells, Eb, h.len]
section
variable {pre suf : List Value} {o : Nat} {r : Rw}
theorem Av1 (ho : pre.length = o) (h : r.Wf) (i : Nat) (hi : i < 130) : (pre ++ r.cells ++ suf)[o + i]? = r.cells[i]? := by
 subst ho; rw [List.append_assoc, List.getElem?_append_right (by omega), Nat.add_sub_cancel_left, List.getElem?_append_left (by rw [Ci h]; exact hi)]
theorem Xa (ho : pre.length = o) (h : r.Wf) : (pre ++ r.cells ++ suf)[o + 128]? = some (.int .i64 (r.first : Int)) := by
 rw [Av1 ho h 128 (by omega), Rw.cells, List.getElem?_append_right (by rw [Eb, h.len]; omega), Eb, h.len]; rfl
theorem Hp (ho : pre.length = o) (h : r.Wf) : (pre ++ r.cells ++ suf)[o + 129]? = some (.int .i64 (r.count : Int)) := by
 rw [Av1 ho h 129 (by omega), Rw.cells, List.getElem?_append_right (by rw [Eb, h.len]; omega), Eb, h.len]; rfl
theorem A89 (ho : pre.length = o) (h : r.Wf) {k : Nat} (hk : k < 64) : ((pre ++ r.cells ++ suf).drop (o + k * 2)).take 2 = itc (r.ring.getD k e0) := by
 subst ho; rw [← Akq r.ring k (by rw [h.len]; exact hk), List.append_assoc, ← List.drop_drop, List.drop_left]; have hl := Eb r.ring; rw [h.len] at hl; unfold Rw.cells; rw [List.append_assoc, List.drop_append_of_le_length (by omega), List.take_append_of_le_length (by rw [List.length_drop]; omega)]
theorem Al4 (ho : pre.length = o) (i : Nat) (hi : i < r.cells.length) (v : Value) : (pre ++ r.cells ++ suf).set (o + i) v = pre ++ r.cells.set i v ++ suf := by
 subst ho; rw [List.append_assoc, List.set_append_right _ _ (by omega), Nat.add_sub_cancel_left, List.set_append_left _ _ (by omega), List.append_assoc]
theorem As9 (ho : pre.length = o) (h : r.Wf) (f : Nat) : (pre ++ r.cells ++ suf).set (o + 128) (.int .i64 (f : Int)) = pre ++ ({ r with first := f } : Rw).cells ++ suf := by
 have hl := Eb r.ring; rw [h.len] at hl; rw [Al4 ho 128 (by rw [Ci h]; omega)]; unfold Rw.cells; rw [List.set_append_right _ _ (by omega), hl]; rfl
theorem Ov (ho : pre.length = o) (h : r.Wf) (c : Nat) : (pre ++ r.cells ++ suf).set (o + 129) (.int .i64 (c : Int)) = pre ++ ({ r with count := c } : Rw).cells ++ suf := by
 have hl := Eb r.ring; rw [h.len] at hl; rw [Al4 ho 129 (by rw [Ci h]; omega)]; unfold Rw.cells; rw [List.set_append_right _ _ (by omega), hl]; rfl
theorem Sm (ho : pre.length = o) (h : r.Wf) {k : Nat} (hk : k < 64) (y : It) : splice (pre ++ r.cells ++ suf) (o + k * 2) (itc y) = pre ++ ({ r with ring := r.ring.set k y } : Rw).cells ++ suf := by
 subst ho; have hl := Eb r.ring; rw [h.len] at hl; unfold Rw.cells; rw [← Ak9 r.ring k y (by rw [h.len]; exact hk)]; unfold splice; have e2 : (itc y).length = 2 := rfl; rw [e2]
 have t1 : (pre ++ (rgc r.ring ++ [Value.int .i64 (r.first : Int), .int .i64 (r.count : Int)]) ++ suf).take (pre.length + k * 2) = pre ++ (rgc r.ring).take (k * 2) := by
  rw [List.append_assoc, List.take_append, List.take_of_length_le (by omega), Nat.add_sub_cancel_left, List.append_assoc, List.take_append_of_le_length (by omega)]
 have t2 : (pre ++ (rgc r.ring ++ [Value.int .i64 (r.first : Int), .int .i64 (r.count : Int)]) ++ suf).drop (pre.length + k * 2 + 2) = (rgc r.ring).drop (k * 2 + 2) ++ ([Value.int .i64 (r.first : Int), .int .i64 (r.count : Int)] ++ suf) := by
  rw [Nat.add_assoc, List.append_assoc, ← List.drop_drop, List.drop_left, List.append_assoc, List.drop_append_of_le_length (by omega)]
 rw [t1, t2]; simp [List.append_assoc]
end
def Rw.item (r : Rw) (k : Nat) : It := r.ring.getD ((r.first + k) % 64) e0
def Rw.items (r : Rw) : List It := (List.range r.count).map r.item
def Rw.pop (r : Rw) : Rw := { ring := r.ring.set r.first e0, first := (r.first + 1) % 64, count := r.count - 1 }
def Rw.put (r : Rw) (x : It) : Rw := { r with ring := r.ring.set ((r.first + r.count) % 64) x, count := r.count + 1 }
def Rw.push (r : Rw) (s : ByteArray) : Rw := if r.count = 64 then r.pop.put (s, 0) else r.put (s, 0)
theorem Rw.Wf.pop {r : Rw} (h : r.Wf) : r.pop.Wf := ⟨by simp [Rw.pop, h.len], by simp only [Rw.pop]; omega, by simp only [Rw.pop]; have := h.c; omega⟩
theorem Rw.Wf.put {r : Rw} (h : r.Wf) (hc : r.count < 64) (x : It) : (r.put x).Wf := ⟨by simp [Rw.put, h.len], h.f, by simp only [Rw.put]; omega⟩
theorem Rw.Wf.push {r : Rw} (h : r.Wf) (s : ByteArray) : (r.push s).Wf := by
 unfold Rw.push; split
 ·exact h.pop.put (by simp only [Rw.pop]; omega) _
 ·exact h.put (by have := h.c; omega) _
theorem Rw.items_length (r : Rw) : r.items.length = r.count := by simp [Rw.items]
theorem Rw.items_pop {r : Rw} (h : r.Wf) (hc : 0 < r.count) : r.items = r.ring.getD r.first e0 :: r.pop.items := by
  have hf := h.f; have hl := h.len; have hcc := h.c; apply List.ext_getElem
  · simp [Rw.items, Rw.pop]; omega
  · intro k h1 h2; simp only [Rw.items, List.length_map, List.length_range] at h1
    cases k with
    | zero =>
      simp only [Rw.items, List.getElem_map, List.getElem_range, Rw.item, List.getElem_cons_zero, Nat.add_zero]; rw [Nat.mod_eq_of_lt hf]
    | succ k =>
      simp only [Rw.items, List.getElem_map, List.getElem_range, Rw.item, List.getElem_cons_succ, Rw.pop]; rw [show ((r.first + 1) % 64 + k) % 64 = (r.first + (k + 1)) % 64 by omega]; rw [List.getD_eq_getElem?_getD, List.getD_eq_getElem?_getD, List.getElem?_set_ne (by omega)]
theorem Rw.items_put {r : Rw} (h : r.Wf) (hc : r.count < 64) (x : It) : (r.put x).items = r.items ++ [x] := by
 have hf := h.f; have hl := h.len; simp only [Rw.items, Rw.put, List.range_succ, List.map_append, List.map_cons, List.map_nil]
 congr 1
 ·apply List.map_congr_left; intro k hk; have hk : k < r.count := by simpa using hk
  simp only [Rw.item]; rw [List.getD_eq_getElem?_getD, List.getD_eq_getElem?_getD, List.getElem?_set_ne (by omega)]
 ·simp only [Rw.item]; rw [List.getD_eq_getElem?_getD, List.getElem?_set_self (by omega)]; rfl
theorem Rw.items_push {r : Rw} (h : r.Wf) (s : ByteArray) : (r.push s).items = (if r.count = 64 then r.items.tail else r.items) ++ [(s, 0)] := by
 unfold Rw.push
 by_cases hc : r.count = 64
 ·rw [if_pos hc, if_pos hc, Rw.items_put h.pop (by simp only [Rw.pop]; omega), Rw.items_pop h (by omega)]; rfl
 ·rw [if_neg hc, if_neg hc, Rw.items_put h (by have := h.c; omega)]
def Iy (b : Nat) (pre : List Value) (r : Rw) (suf : List Value) : Res := Aa b (pre ++ r.cells ++ suf) 190
theorem Qb {b i j : Nat} (h : i = j) : Ending.returned (.pointer (some ⟨b, i, none⟩)) = .returned (.pointer (some ⟨b, j, none⟩)) := by rw [h]
def zr : Rw := ⟨List.replicate 64 e0, 0, 0⟩
def Cr (l : List Rw) : List Value := l.flatMap Rw.cells
set_option maxRecDepth 100000 in
theorem z53 : ((Tryz.prog.info? 190).map (fun i => i.zero)) = some (some (Value.agg (Cr (List.replicate 48 zr)).toArray)) := by kernel_rfl
theorem Bx4 (w : World) : (zeroValue 190).run Tryz.prog w = .ok (.agg (Cr (List.replicate 48 zr)).toArray) w := by
 obtain ⟨i, hi, hz⟩ := Option.map_eq_some_iff.1 z53; simp [zeroValue, typeInfo, hi, hz]
theorem Aa1 {S ρ ty} {parts : Array (Nat × Operand)}  (hp : (parts.toList.map fun x => (x.1, ev ρ x.2)) = []) : Y Tryz.prog S ρ (.build 132 parts) ty (.agg #[Value.string ⟨#[]⟩, .int .i64 0]) :=
 Y.build hp fun w => by simp [Instr.build, go_sem]
theorem Agx {S ρ ty} {parts : Array (Nat × Operand)} {x0 : ByteArray} (hp : (parts.toList.map fun x => (x.1, ev ρ x.2)) = [(0, Value.string x0)]) : Y Tryz.prog S ρ (.build 132 parts) ty (.agg #[Value.string x0, .int .i64 0]) :=
 Y.build hp fun w => by simp [Instr.build, go_sem]
theorem Bb5 : FA 166 0 0 := fun _ _ => by simp [Instr.fieldAt, Instr.sureAddr, go_sem]
theorem Vl : FA 166 1 128 := fun _ _ => by simp [Instr.fieldAt, Instr.sureAddr, go_sem]
theorem Gc : FA 166 2 129 := fun _ _ => by simp [Instr.fieldAt, Instr.sureAddr, go_sem]
theorem Bb7 : FA 190 0 0 := fun _ _ => by simp [Instr.fieldAt, Instr.sureAddr, go_sem]
theorem Bs3 : CF 80 := fun _ _ => by simp [go_sem]
theorem Ba1 : CF 94 := fun _ _ => by simp [go_sem]
theorem Va (b o : Nat) (pre suf : List Value) (r : Rw) (k : Nat) (w0 w : World) (F0 : List Nat) (L G : List Res) (I : St w0 F0 w L G) (n : Nat) (hL : L[n]? = some (Iy b pre r suf)) (ho : pre.length = o) (hr : r.Wf) (hk : k ≤ 64) :
  Calls Tryz.prog 94 #[.pointer (some ⟨b, o, none⟩), .int .i64 (k : Int)] w fun e w' => e = .returned (.pointer (some ⟨b, o + (r.first + k) % 64 * 2, none⟩)) ∧ St w0 F0 w' L G := by
 have hf := hr.f; refine W.func func94 O ntmps94 O<|Wh O<|I.y O (Y.assignP O)<|Od O<|Wq O<|W.drawn O (by kernel_rfl) (Ctx _ _ (_) (_)) [] (.op 0 0 (.op 1 0 (.op 2 0 (.op 3 0 (.op 4 0 (.op 5 0 (.op 6 0 (.op 7 0 (.op 8 0 (.op 9 0 (.op 10 0 (.op 11 0 .nil)))))))))))) O (by kernel_rfl) I.drew.ctx<|?_; replace I := I.drew; generalize World.drew _ = wd at I ⊢; refine I.zp O O<|I.zp O O<|I.zt O O<|I.zf Vl O O<|I.z O (Y.load n isAgg3 O hL (Xa ho hr))<|I.zu O O<|I.zj O O O (by omega)<|I.z O (Y.remI O O (by omega))<|I.zt O O<|I.zf Bb5 O O<|I.z O (Y.indexAddrA underlying164 sizeOf132 O O (by omega))<|I.z O (Y.assignP O)<|Dd<|We O<|⟨_, Ac.one results94 O, ?_⟩; exact ⟨Qb (by omega), I⟩
set_option maxHeartbeats 1000000 in
theorem Ak2 (b o : Nat) (pre suf : List Value) (r : Rw) (w0 w : World) (F0 : List Nat) (L G : List Res) (I : St w0 F0 w (Iy b pre r suf :: L) G) (ho : pre.length = o) (hr : r.Wf) (hc : 0 < r.count) :
  Calls Tryz.prog 80 #[.pointer (some ⟨b, o, none⟩)] w fun e w' => e = .returned (.agg #[.string (r.ring.getD r.first e0).1, .int .i64 (r.ring.getD r.first e0).2]) ∧ St w0 F0 w' (Iy b pre r.pop suf :: L) G := by
 have hf := hr.f; have hcc := hr.c; have hmod : (r.first + 0) % 64 = r.first := by omega
 refine W.func func80 O ntmps80 O<|Wh O<|Ow O (X.allocA I zeroValue132<|?_); clear I; intro p2 w2 I; refine Ds O O<|I.p O O<|Oc O Ba1 O ?_; refine Ab (Va b o pre suf r 0 _ _ _ _ _ I 1 O ho hr (by omega)) O ?_; rintro e w1 ⟨rfl, I⟩; refine ⟨_, O, ?_⟩; refine I.t O O<|I.y O (Y.loadA 1 isAgg132 sizeOf132 O O ((A89 ho hr (by omega)).trans (congrArg (fun k => itc (r.ring.getD k e0)) hmod)) O)<|Ow O (X.allocA I zeroValue132<|?_); clear I; intro p3 w3 I; refine Ow O (X.storeS I 0 sizeOf132 O O O O O (lZ O) O O ?_); clear I; intro w1_5 I
 try simp only [List.set_cons_zero, List.set_cons_succ, Nat.zero_add, Nat.reduceAdd, splice, List.take, List.drop, List.append_eq, List.nil_append, List.cons_append, List.length_cons, List.length_nil] at I
 refine Ds O O<|I.p O O<|Oc O Ba1 O ?_; refine Ab (Va b o pre suf r 0 _ _ _ _ _ I 2 O ho hr (by omega)) O ?_; rintro e w1 ⟨rfl, I⟩; refine ⟨_, O, ?_⟩; refine I.y rfl (Aa1 rfl)<|I.t rfl rfl<|Ow rfl (X.storeS I 2 sizeOf132 rfl rfl rfl rfl rfl (by rw [List.length_append, List.length_append, Ci hr]; omega) (Sm ho hr (k := (r.first + 0) % 64) (by omega) e0) rfl<|?_); clear I; intro w2 I; have hr2 : ({ r with ring := r.ring.set ((r.first + 0) % 64) e0 } : Rw).Wf := ⟨by simp [hr.len], hr.f, hr.c⟩; have e2 : ({ r with ring := r.ring.set ((r.first + 0) % 64) e0 } : Rw).first = r.first ∧ ({ r with ring := r.ring.set ((r.first + 0) % 64) e0 } : Rw).count = r.count := ⟨rfl, rfl⟩; generalize h2 : ({ r with ring := r.ring.set ((r.first + 0) % 64) e0 } : Rw) = r2 at I hr2 e2; refine Od O<|Wq O<|W.drawn O (by kernel_rfl) (Ctx _ _ (_) (_)) [15, 16, 17, 18] (.op 0 0 (.op 1 2 (.op 2 0 (.op 3 0 (.op 4 0 (.op 5 0 (.op 6 0 (.op 7 0 (.op 8 0 (.op 9 0 (.op 10 0 (.op 11 0 (.op 12 2 (.op 13 0 (.op 14 0 (.op 15 1 (.op 16 1 (.op 17 1 (.op 18 1 .nil))))))))))))))))))) O (by kernel_rfl) I.drew.ctx<|?_; replace I := I.drew; generalize World.drew _ = wd at I ⊢; refine I.zp rfl rfl<|Drw.ya rfl rfl rfl I.ctx (Y.moveP rfl)<|I.zp rfl rfl<|I.zt rfl rfl<|I.zf Vl rfl rfl<|I.z rfl (Y.load 2 isAgg3 rfl rfl (Xa ho hr2))<|I.zj rfl rfl rfl (by omega)<|I.z rfl (Y.remI rfl rfl (by omega))<|I.zp rfl rfl<|I.zt rfl rfl<|I.zf Gc rfl rfl<|I.z rfl (Y.load 2 isAgg3 rfl rfl (Hp ho hr2))<|Drw.ya rfl rfl rfl I.ctx (Y.subI rfl rfl (by omega))<|I.zt rfl rfl<|I.zf Vl rfl rfl<|Drw.z rfl rfl rfl rfl (X.store I 2 sizeOf3 rfl rfl rfl rfl (by rw [List.length_append, List.length_append, Ci hr2]; omega) ((congrArg (List.set _ _) (congrArg (Value.int .i64) (show ((r2.first : Int) + 1) % 64 = (((r.first + 1) % 64 : Nat) : Int) by omega))).trans (As9 ho hr2 ((r.first + 1) % 64))) rfl<|?_); clear I; intro w3 I; have hr3 : ({ r2 with first := (r.first + 1) % 64 } : Rw).Wf := ⟨hr2.len, Nat.mod_lt _ (by decide), hr2.c⟩; refine Drw.zy rfl rfl rfl rfl I.ctx (Y.nilCheck rfl)<|Drw.zy rfl rfl rfl rfl I.ctx (Y.fieldAddr Gc rfl)<|Drw.z rfl rfl rfl rfl (X.store I 2 sizeOf3 rfl rfl rfl rfl (by rw [List.length_append, List.length_append, Ci hr3]; omega) ((congrArg (List.set _ _) (congrArg (Value.int .i64) (show (r2.count : Int) - 1 = ((r.count - 1 : Nat) : Int) by omega))).trans (Ov ho hr3 (r.count - 1))) rfl<|?_); clear I; intro w4 I; refine Dd<|Wh O<|I.y O (Y.loadA 0 isAgg132 sizeOf132 O O O O)<|Ow O (X.storeS I 1 sizeOf132 O O O O O (lZ O) O O<|?_); clear I; intro w4_1 I
 try simp only [List.set_cons_zero, List.set_cons_succ, Nat.zero_add, Nat.reduceAdd, splice, List.take, List.drop, List.append_eq, List.nil_append, List.cons_append, List.length_cons, List.length_nil] at I
 refine Od O<|We O<|⟨_, Ac.cell results80 O (Dp isAgg132 sizeOf132 O (fun j v h => by rw [B6, I.cell (.inl (List.Mem.tail _ (List.Mem.head _))) (0 + j), Nat.zero_add]; exact h)), ?_⟩; refine ⟨O, ?_⟩; have e3 : ({ r2 with first := (r.first + 1) % 64, count := r.count - 1 } : Rw) = r.pop := by rw [← h2, hmod]; rfl
 have I := I.drop.drop; rw [show (Aa b (pre ++ ({ r2 with first := (r.first + 1) % 64, count := r.count - 1 } : Rw).cells ++ suf) 190) = Iy b pre r.pop suf by rw [e3]; rfl] at I; exact I
set_option maxHeartbeats 1000000 in
theorem A30 (b o : Nat) (pre suf : List Value) (r : Rw) (s : ByteArray) (w0 w : World) (F0 : List Nat) (L G : List Res) (I : St w0 F0 w (Iy b pre r suf :: L) G) (ho : pre.length = o) (hr : r.Wf) :
  Calls Tryz.prog 77 #[.pointer (some ⟨b, o, none⟩), .string s] w fun e w' => ∃ c, e = .returned (.bool c) ∧ c = decide (r.count ≠ 64) ∧ St w0 F0 w' (Iy b pre (r.push s) suf :: L) G := by
 have hf := hr.f; have hcc := hr.c; refine W.func func77 O ntmps77 O<|Wh O<|I.g O O<|Ds O O<|I.p O O<|I.t O O<|I.f Gc O O<|I.y O (Y.load 0 isAgg3 O O (Hp ho hr))<|I.Y O O O (fun b10 hb10 => I.g O O<|Od O<|Wq O<|Wh O<|I.b O O<|Od O<|?_); cases b10
 ·replace hb10 := dF hb10; refine Wu O O<|Wk O<|Wq O<|?_; obtain ⟨q, hq, hqc, I, hfin⟩ : ∃ q : Rw, q.Wf ∧ q.count < 64 ∧ St w0 F0 _ (Iy b pre q suf :: L) G ∧ r.push s = q.put (s, 0) := by first | exact ⟨r, hr, by omega, I, by unfold Rw.push; rw [if_neg (by omega)]⟩ | exact ⟨r.pop, hr.pop, by simp only [Rw.pop]; omega, I, by unfold Rw.push; rw [if_pos (by omega)]⟩
  have hqf := hq.f; refine Wr O<|I.p O O<|I.p O O<|I.t O O<|I.f Gc O O<|I.y O (Y.load 0 isAgg3 O O (Hp ho hq))<|Oc O Ba1 O ?_; refine Ab (Va b o pre suf q q.count _ _ _ _ _ I 0 O ho hq (by omega)) O ?_; rintro e w2 ⟨rfl, I⟩; refine ⟨_, O, ?_⟩; refine I.y rfl (Y.moveT rfl)<|I.y rfl (Agx rfl)<|I.t rfl rfl<|Ow rfl (X.storeS I 0 sizeOf132 rfl rfl rfl rfl rfl (by rw [List.length_append, List.length_append, Ci hq]; omega) (Sm ho hq (k := (q.first + q.count) % 64) (by omega) (s, 0)) rfl<|?_); clear I; intro w3 I; have hq2 : ({ q with ring := q.ring.set ((q.first + q.count) % 64) (s, 0) } : Rw).Wf := ⟨by simp [hq.len], hq.f, hq.c⟩; have e2 : ({ q with ring := q.ring.set ((q.first + q.count) % 64) (s, 0) } : Rw).count = q.count := rfl; generalize h2 : ({ q with ring := q.ring.set ((q.first + q.count) % 64) (s, 0) } : Rw) = q2 at I hq2 e2; refine Ds rfl rfl<|I.p rfl rfl<|I.t rfl rfl<|I.f Gc rfl rfl<|I.y rfl (Y.load 0 isAgg3 rfl rfl (Hp ho hq2))<|I.j rfl rfl rfl (by omega)<|I.t rfl rfl<|I.f Gc rfl rfl<|Ow rfl (X.store I 0 sizeOf3 rfl rfl rfl rfl (by rw [List.length_append, List.length_append, Ci hq2]; omega) ((congrArg (List.set _ _) (congrArg (Value.int .i64) (show (q2.count : Int) + 1 = ((q.count + 1 : Nat) : Int) by omega))).trans (Ov ho hq2 (q.count + 1))) rfl<|?_); clear I; intro w4 I; refine Ds O O<|I.b O O<|I.q O O<|I.g O O<|Od O<|We O<|⟨_, Ac.one results77 O, ?_⟩; refine ⟨_, O, ?_, ?_⟩
  ·first | exact (decide_eq_true (by omega)).symm | exact (decide_eq_false (by omega)).symm
  ·have e3 : ({ q2 with count := q.count + 1 } : Rw) = r.push s := by rw [hfin, ← h2]; rfl
   rw [← e3]; exact I
 ·replace hb10 := dT hb10; refine Wt O O<|Wr O<|I.p O O<|Oc O Bs3 O ?_; refine Ab (Ak2 b o pre suf r _ _ _ _ _ I ho hr (by omega)) O ?_; rintro e w1 ⟨rfl, I⟩; refine ⟨_, O, ?_⟩; refine Od O<|Wq O<|?_; obtain ⟨q, hq, hqc, I, hfin⟩ : ∃ q : Rw, q.Wf ∧ q.count < 64 ∧ St w0 F0 _ (Iy b pre q suf :: L) G ∧ r.push s = q.put (s, 0) := by first | exact ⟨r, hr, by omega, I, by unfold Rw.push; rw [if_neg (by omega)]⟩ | exact ⟨r.pop, hr.pop, by simp only [Rw.pop]; omega, I, by unfold Rw.push; rw [if_pos (by omega)]⟩
  have hqf := hq.f; refine Wr O<|I.p O O<|I.p O O<|I.t O O<|I.f Gc O O<|I.y O (Y.load 0 isAgg3 O O (Hp ho hq))<|Oc O Ba1 O ?_; refine Ab (Va b o pre suf q q.count _ _ _ _ _ I 0 O ho hq (by omega)) O ?_; rintro e w2 ⟨rfl, I⟩; refine ⟨_, O, ?_⟩; refine I.y rfl (Y.moveT rfl)<|I.y rfl (Agx rfl)<|I.t rfl rfl<|Ow rfl (X.storeS I 0 sizeOf132 rfl rfl rfl rfl rfl (by rw [List.length_append, List.length_append, Ci hq]; omega) (Sm ho hq (k := (q.first + q.count) % 64) (by omega) (s, 0)) rfl<|?_); clear I; intro w3 I; have hq2 : ({ q with ring := q.ring.set ((q.first + q.count) % 64) (s, 0) } : Rw).Wf := ⟨by simp [hq.len], hq.f, hq.c⟩; have e2 : ({ q with ring := q.ring.set ((q.first + q.count) % 64) (s, 0) } : Rw).count = q.count := rfl; generalize h2 : ({ q with ring := q.ring.set ((q.first + q.count) % 64) (s, 0) } : Rw) = q2 at I hq2 e2; refine Ds rfl rfl<|I.p rfl rfl<|I.t rfl rfl<|I.f Gc rfl rfl<|I.y rfl (Y.load 0 isAgg3 rfl rfl (Hp ho hq2))<|I.j rfl rfl rfl (by omega)<|I.t rfl rfl<|I.f Gc rfl rfl<|Ow rfl (X.store I 0 sizeOf3 rfl rfl rfl rfl (by rw [List.length_append, List.length_append, Ci hq2]; omega) ((congrArg (List.set _ _) (congrArg (Value.int .i64) (show (q2.count : Int) + 1 = ((q.count + 1 : Nat) : Int) by omega))).trans (Ov ho hq2 (q.count + 1))) rfl<|?_); clear I; intro w4 I; refine Ds O O<|I.b O O<|I.q O O<|I.g O O<|Od O<|We O<|⟨_, Ac.one results77 O, ?_⟩; refine ⟨_, O, ?_, ?_⟩
  ·first | exact (decide_eq_true (by omega)).symm | exact (decide_eq_false (by omega)).symm
  ·have e3 : ({ q2 with count := q.count + 1 } : Rw) = r.push s := by rw [hfin, ← h2]; rfl
   rw [← e3]; exact I
theorem Bu0 {S ρ ty} {parts : Array (Nat × Operand)} (hp : parts.toList = []) : Y Tryz.prog S ρ (.build 190 parts) ty (.agg (Cr (List.replicate 48 zr)).toArray) :=
 Y.build (ps := []) (by rw [hp]; rfl) fun w => by
  simp only [Instr.build, Sem.run_bind, Bx4, Result.andThen_ok, run_underlying underlying190]; simp [go_sem, Instr.fill, Value.cells]
theorem new_any (w0 w : World) (F0 : List Nat) (L G : List Res) (I : St w0 F0 w L G) :
  Calls Tryz.prog 71 #[] w fun e w' => ∃ b, e = .returned (.pointer (some ⟨b, 0, none⟩)) ∧ St w0 F0 w' (Aa b (Cr (List.replicate 48 zr)) 190 :: L) G := by
 refine W.func func71 O ntmps71 O<|Wh O<|I.y O (Y.assignP O)<|Ds O O<|I.y O (Bu0 O)<|Ow O (X.boxA I O<|?_); clear I; intro p2 w2 I; refine I.y O (Y.assignP O)<|Od O<|We O<|⟨_, Ac.one results71 O, ?_⟩; exact ⟨_, O, I⟩
theorem Akx (b : Nat) (who : Int) (w : World) :
  Calls Tryz.prog 76 #[.pointer (some ⟨b, 0, none⟩), .int .i64 who] w fun e w' => e = .returned (.pointer (if 0 ≤ who ∧ who < 48 then some ⟨b, who.toNat * 130, none⟩ else none)) ∧ w = w' := by
 refine W.func func76 rfl ntmps76 rfl<|Wh rfl<|Ops.y rfl rfl rfl (any _) (Y.assignP rfl)<|Od rfl<|Wq rfl<|Wh rfl<|Ops.y rfl rfl rfl (any _) (Y.moveP rfl)<|Ops.y rfl rfl rfl (any _) (Y.isNil underlying94 rfl rfl)<|Ops.y rfl rfl rfl (any _) (Y.moveB rfl)<|Ops.y rfl rfl rfl (any _) (Y.moveI rfl)<|Ops.yb rfl rfl rfl (any _) (Y.lss rfl rfl) (fun b9 hb9 => Ops.y rfl rfl rfl (any _) (Y.pB rfl rfl)<|Ops.y rfl rfl rfl (any _) (Y.moveB rfl)<|?_); cases b9
 ·replace hb9 := dF hb9; refine Ops.y rfl rfl rfl (any _) (Y.moveI rfl)<|Ops.yb rfl rfl rfl (any _) (Y.geq rfl rfl) (fun b13 hb13 => Ops.y rfl rfl rfl (any _) (Y.pB rfl rfl)<|Od rfl<|?_); cases b13
  ·replace hb13 := dF hb13; refine Wu rfl rfl<|Wk rfl<|Wh rfl<|Ops.y rfl rfl rfl (any _) (Y.moveP rfl)<|Ops.y rfl rfl rfl (any _) (Y.moveI rfl)<|Ops.y rfl rfl rfl (any _) (Y.nilCheck rfl)<|Ops.y rfl rfl rfl (any _) (Y.fieldAddr Bb7 rfl)<|Ops.y rfl rfl rfl (any _) (Y.indexAddrA underlying188 sizeOf166 rfl rfl (by omega))<|Ops.y rfl rfl rfl (any _) (Y.assignP rfl)<|Od rfl<|We rfl<|⟨_, Ac.one results76 rfl, ?_⟩; refine ⟨?_, rfl⟩
   first | (rw [if_neg (by omega)]; rfl) | (rw [if_pos (by omega)]; exact Qb (by omega))
  ·replace hb13 := dT hb13; refine Wt rfl rfl<|Wh rfl<|Ops.y rfl rfl rfl (any _) (Y.assignP rfl)<|Od rfl<|We rfl<|⟨_, Ac.one results76 rfl, ?_⟩; refine ⟨?_, rfl⟩
   first | (rw [if_neg (by omega)]; rfl) | (rw [if_pos (by omega)]; exact Qb (by omega))
 ·replace hb9 := dT hb9; refine On rfl<|On rfl<|Ops.y rfl rfl rfl (any _) (Y.pB rfl rfl)<|Od rfl<|Wt rfl rfl<|Wh rfl<|Ops.y rfl rfl rfl (any _) (Y.assignP rfl)<|Od rfl<|We rfl<|⟨_, Ac.one results76 rfl, ?_⟩; refine ⟨?_, rfl⟩
  first | (rw [if_neg (by omega)]; rfl) | (rw [if_pos (by omega)]; exact Qb (by omega))
theorem Lx : ∀ (l : List Rw), (∀ r ∈ l, r.Wf) → (Cr l).length = l.length * 130
  | [], _ => rfl
  | r :: l, h => by
    have ih := Lx l (fun x hx => h x (by simp [hx])); have := Ci (h r (by simp)); simp only [Cr, List.flatMap_cons, List.length_append, List.length_cons] at ih ⊢; omega
structure LWf (N : Int) (rows : List Rw) : Prop where
  len : rows.length = 48
  wf : ∀ r ∈ rows, r.Wf
  age : ∀ r ∈ rows, ∀ x ∈ r.ring, 0 ≤ x.2 ∧ x.2 ≤ N
theorem A61 {rows : List Rw} {k : Nat} (hk : k < rows.length) : rows = rows.take k ++ rows.getD k zr :: rows.drop (k + 1) := by
 rw [List.getD_eq_getElem?_getD, List.getElem?_eq_getElem hk, Option.getD_some, ← List.drop_eq_getElem_cons hk, List.take_append_drop]
theorem Apq {rows : List Rw} {k : Nat} (hk : k < rows.length) : Cr rows = Cr (rows.take k) ++ (rows.getD k zr).cells ++ Cr (rows.drop (k + 1)) := by
 have := congrArg Cr (A61 hk); rw [this]; simp [Cr, List.flatMap_append, List.append_assoc]
theorem Ad3 {rows : List Rw} {k : Nat} (hk : k < rows.length) (r : Rw) : Cr (rows.take k) ++ r.cells ++ Cr (rows.drop (k + 1)) = Cr (rows.set k r) := by
 rw [List.set_eq_take_append_cons_drop, if_pos hk]; simp [Cr, List.flatMap_append, List.append_assoc]
theorem LWf.get {N : Int} {rows : List Rw} (h : LWf N rows) {k : Nat} (hk : k < 48) : rows.getD k zr ∈ rows := by
 rw [List.getD_eq_getElem?_getD, List.getElem?_eq_getElem (by rw [h.len]; exact hk)]; simp
theorem LWf.set {N : Int} {rows : List Rw} (h : LWf N rows) (k : Nat) {r : Rw} (hr : r.Wf) (ha : ∀ x ∈ r.ring, 0 ≤ x.2 ∧ x.2 ≤ N) : LWf N (rows.set k r) := by
 refine ⟨by simp [h.len], fun x hx => ?_, fun x hx => ?_⟩
 ·rcases List.mem_or_eq_of_mem_set hx with h1 | rfl
  ·exact h.wf x h1
  ·exact hr
 ·rcases List.mem_or_eq_of_mem_set hx with h1 | rfl
  ·exact h.age x h1
  ·exact ha
theorem LWf.pre {N : Int} {rows : List Rw} (h : LWf N rows) {k : Nat} (hk : k < 48) : (Cr (rows.take k)).length = k * 130 := by
 rw [Lx _ (fun r hr => h.wf r (List.mem_of_mem_take hr)), List.length_take, h.len, Nat.min_eq_left (by omega)]
def LR (b : Nat) (rows : List Rw) : Res := Aa b (Cr rows) 190
theorem Ag7 {b : Nat} {N : Int} {rows : List Rw} (h : LWf N rows) {k : Nat} (hk : k < 48) : LR b rows = Iy b (Cr (rows.take k)) (rows.getD k zr) (Cr (rows.drop (k + 1))) := by
 unfold LR Iy; rw [← Apq (by rw [h.len]; exact hk)]
theorem Au5 {b : Nat} {N : Int} {rows : List Rw} (h : LWf N rows) {k : Nat} (hk : k < 48) (r : Rw) : Iy b (Cr (rows.take k)) r (Cr (rows.drop (k + 1))) = LR b (rows.set k r) := by
 unfold LR Iy; rw [Ad3 (by rw [h.len]; exact hk)]
abbrev Qs := List (List It)
def QR (b : Nat) (N : Int) (qs : Qs) : Res where
  fp := [b]
  holds w := ∃ rows, LWf N rows ∧ rows.map Rw.items = qs ∧ (LR b rows).holds w
  loc w w' h := by rintro ⟨rows, h1, h2, h3⟩; exact ⟨rows, h1, h2, (LR b rows).loc w w' h h3⟩
section
variable {w0 w : World} {F0 : List Nat} {L G : List Res} {b : Nat} {N : Int} {qs : Qs}
theorem _root_.Go.Proofs.YtaanjifekgfemaaGreat.K.St.openQ (h : St w0 F0 w (QR b N qs :: L) G) : ∃ rows, LWf N rows ∧ rows.map Rw.items = qs ∧ St w0 F0 w (LR b rows :: L) G := by
 obtain ⟨rows, h1, h2, h3⟩ := h.res (QR b N qs) (by simp); exact ⟨rows, h1, h2, h.turn1 (by simp [LR, QR]) (by simp [LR]) (fun _ => h3)⟩
theorem _root_.Go.Proofs.YtaanjifekgfemaaGreat.K.St.shutQ {rows : List Rw} (h : St w0 F0 w (LR b rows :: L) G) (h1 : LWf N rows) (h2 : rows.map Rw.items = qs) : St w0 F0 w (QR b N qs :: L) G :=
 h.turn1 (by simp [LR, QR]) (by simp [QR]) (fun h3 => ⟨rows, h1, h2, h3⟩)
theorem _root_.Go.Proofs.YtaanjifekgfemaaGreat.K.St.shutQ' {rows : List Rw} (h : St w0 F0 w (LR b rows :: L) G) (h1 : LWf N rows) : St w0 F0 w (QR b N (rows.map Rw.items) :: L) G := St.shutQ h h1 rfl
end
theorem Bi5 {b : Nat} {N : Int} {qs : Qs} {w : World} (h : (QR b N qs).holds w) : qs.length = 48 := by
 obtain ⟨rows, h1, rfl, _⟩ := h; simp [h1.len]
theorem Btx : zr.Wf := ⟨by simp [zr], by decide, by decide⟩
theorem Blx : LWf 0 (List.replicate 48 zr) := by
 refine ⟨by simp, fun r hr => ?_, fun r hr x hx => ?_⟩
 ·rw [List.eq_of_mem_replicate hr]; exact Btx
 ·rw [List.eq_of_mem_replicate hr] at hx; have := List.eq_of_mem_replicate (show x ∈ List.replicate 64 e0 from hx); subst this; exact ⟨by decide, by decide⟩
theorem Ar0 : (List.replicate 48 zr).map Rw.items = List.replicate 48 [] := by rw [List.map_replicate]; rfl
theorem Kz {N : Int} {rows : List Rw} (h : LWf N rows) {k : Nat} (hk : k < 48) : (rows.map Rw.items).getD k [] = (rows.getD k zr).items := by
 rw [List.getD_eq_getElem?_getD, List.getD_eq_getElem?_getD, List.getElem?_map, List.getElem?_eq_getElem (by rw [h.len]; exact hk)]; rfl
theorem Lz (rows : List Rw) (k : Nat) (r : Rw) : (rows.set k r).map Rw.items = (rows.map Rw.items).set k r.items := by rw [List.map_set]
theorem LWf.le {N M : Int} {rows : List Rw} (h : LWf N rows) (hm : N ≤ M) : LWf M rows := ⟨h.len, h.wf, fun r hr x hx => by have := h.age r hr x hx; omega⟩
def inR (who : Int) : Prop := 0 ≤ who ∧ who < 48
instance (who : Int) : Decidable (inR who) := by unfold inR; infer_instance
def qat (qs : Qs) (who : Int) : List It := qs.getD who.toNat []
def Ae4 (q : List It) (s : ByteArray) : List It := (if q.length = 64 then q.tail else q) ++ [(s, 0)]
def D4 (qs : Qs) (who : Int) (s : ByteArray) : Qs := if inR who ∧ s.size ≤ 4096 then qs.set who.toNat (Ae4 (qat qs who) s) else qs
def Sa (qs : Qs) (who : Int) (s : ByteArray) : Int := if inR who then if s.size ≤ 4096 then if (qat qs who).length = 64 then 8 else 0 else 3 else 1
def Wm (qs : Qs) (who : Int) : Qs := if inR who then qs.set who.toNat (qat qs who).tail else qs
def Pt (qs : Qs) (who : Int) : It := if inR who then (qat qs who).headD e0 else e0
def Yy (qs : Qs) (who : Int) : Bool := decide (inR who ∧ qat qs who ≠ [])
def Bt3 (x : It) : It := (x.1, x.2 + 1)
def Bx0 (most : Int) (q : List It) : List It := (q.map Bt3).filter fun x => decide (x.2 ≤ most)
def Bt9 (qs : Qs) (most : Int) : Qs := qs.map (Bx0 most)
def tot (qs : Qs) : Nat := (qs.map List.length).sum
def Ey (qs : Qs) (most : Int) : Nat := tot qs - tot (Bt9 qs most)
theorem Auz {N : Int} (hN : 0 ≤ N) {r : Rw} (h : ∀ x ∈ r.ring, 0 ≤ x.2 ∧ x.2 ≤ N) (s : ByteArray) : ∀ x ∈ (r.push s).ring, 0 ≤ x.2 ∧ x.2 ≤ N := by
 have hset : ∀ (l : List It) (k : Nat) (y : It), (∀ x ∈ l, 0 ≤ x.2 ∧ x.2 ≤ N) → (0 ≤ y.2 ∧ y.2 ≤ N) → ∀ x ∈ l.set k y, 0 ≤ x.2 ∧ x.2 ≤ N := by
  intro l k y h1 h2 x hx; rcases List.mem_or_eq_of_mem_set hx with h3 | rfl
  ·exact h1 x h3
  ·exact h2
 unfold Rw.push; split
 ·exact hset _ _ _ (hset _ _ _ h ⟨Int.le_refl 0, hN⟩) ⟨Int.le_refl 0, hN⟩
 ·exact hset _ _ _ h ⟨Int.le_refl 0, hN⟩
theorem A87 {N : Int} (hN : 0 ≤ N) {r : Rw} (h : ∀ x ∈ r.ring, 0 ≤ x.2 ∧ x.2 ≤ N) : ∀ x ∈ r.pop.ring, 0 ≤ x.2 ∧ x.2 ≤ N := by
 intro x hx; rcases List.mem_or_eq_of_mem_set hx with h3 | rfl
 ·exact h x h3
 ·exact ⟨Int.le_refl 0, hN⟩
theorem Rs {r : Rw} (h : r.Wf) (hc : 0 < r.count) : r.items.headD e0 = r.ring.getD r.first e0 ∧ r.items.tail = r.pop.items := by
 rw [Rw.items_pop h hc]; exact ⟨rfl, rfl⟩
section
variable {w0 w : World} {F0 : List Nat} {L G : List Res} {b : Nat} {N : Int} {rows : List Rw} {who : Int}
theorem inR.lt (h : inR who) : who.toNat < 48 := by unfold inR at h; omega
theorem Iv (hw : LWf N rows) (h : inR who) : qat (rows.map Rw.items) who = (rows.getD who.toNat zr).items := Kz hw h.lt
theorem Uk (hw : LWf N rows) (hN : 0 ≤ N) (h : inR who) {s : ByteArray} (hs : s.size ≤ 4096)
  (I : St w0 F0 w (Iy b (Cr (rows.take who.toNat)) ((rows.getD who.toNat zr).push s) (Cr (rows.drop (who.toNat + 1))) :: L) G) : St w0 F0 w (QR b N (D4 (rows.map Rw.items) who s) :: L) G := by
 have hm := hw.get h.lt; rw [Au5 hw h.lt] at I; refine St.shutQ I (hw.set _ ((hw.wf _ hm).push s) (Auz hN (hw.age _ hm) s)) ?_; rw [Lz, Rw.items_push (hw.wf _ hm), show D4 (rows.map Rw.items) who s = (rows.map Rw.items).set who.toNat (Ae4 (qat (rows.map Rw.items) who) s) from if_pos ⟨h, hs⟩]; unfold Ae4; rw [Iv hw h, Rw.items_length]
theorem Y2 (hw : LWf N rows) (h : inR who) {s : ByteArray} (hs : s.size ≤ 4096) : Sa (rows.map Rw.items) who s = if (rows.getD who.toNat zr).count = 64 then 8 else 0 := by
 unfold Sa; rw [if_pos h, if_pos hs, Iv hw h, Rw.items_length]
theorem A2x (hw : LWf N rows) (hN : 0 ≤ N) (h : inR who) (hc : 0 < (rows.getD who.toNat zr).count)
  (I : St w0 F0 w (Iy b (Cr (rows.take who.toNat)) ((rows.getD who.toNat zr).pop) (Cr (rows.drop (who.toNat + 1))) :: L) G) : St w0 F0 w (QR b N (Wm (rows.map Rw.items) who) :: L) G := by
 have hm := hw.get h.lt; rw [Au5 hw h.lt] at I; refine St.shutQ I (hw.set _ (hw.wf _ hm).pop (A87 hN (hw.age _ hm))) ?_; rw [Lz]; unfold Wm; rw [if_pos h, Iv hw h, (Rs (hw.wf _ hm) hc).2]
theorem Bd8 (hw : LWf N rows) (h : inR who) (hc : 0 < (rows.getD who.toNat zr).count) : Pt (rows.map Rw.items) who = (rows.getD who.toNat zr).ring.getD (rows.getD who.toNat zr).first e0 := by
 unfold Pt; rw [if_pos h, Iv hw h, (Rs (hw.wf _ (hw.get h.lt)) hc).1]
theorem Ap5 {r : Rw} (h : r.count = 0) : r.items = [] := List.eq_nil_of_length_eq_zero (by rw [Rw.items_length, h])
theorem Az5 {r : Rw} (h : r.count ≠ 0) : r.items ≠ [] := fun e => h (by rw [← Rw.items_length, e]; rfl)
theorem A5z {qs : Qs} {k : Nat} (h : qs.getD k [] = []) : qs.set k [] = qs := by
 apply List.ext_getElem?; intro i; rw [List.getElem?_set]; split
 ·rename_i e; subst e; rw [List.getD_eq_getElem?_getD] at h; split
  ·rename_i hl; rw [List.getElem?_eq_getElem hl] at h ⊢; simp at h; rw [h]
  ·rename_i hl; rw [List.getElem?_eq_none (by omega)]
 ·rfl
end
theorem Ba0 : CF 76 := fun _ _ => by simp [go_sem]
theorem Bvx : CF 77 := fun _ _ => by simp [go_sem]
theorem A4x (b : Nat) (who : Int) (w : World) (h : inR who) : Calls Tryz.prog 76 #[.pointer (some ⟨b, 0, none⟩), .int .i64 who] w fun e w' => e = .returned (.pointer (some ⟨b, who.toNat * 130, none⟩)) ∧ w = w' :=
 (Akx b who w).mono fun e w' ⟨h1, h2⟩ => ⟨by rw [h1, if_pos (show 0 ≤ who ∧ who < 48 from h)], h2⟩
theorem Akz (b : Nat) (who : Int) (w : World) (h : ¬ inR who) : Calls Tryz.prog 76 #[.pointer (some ⟨b, 0, none⟩), .int .i64 who] w fun e w' => e = .returned (.pointer none) ∧ w = w' :=
 (Akx b who w).mono fun e w' ⟨h1, h2⟩ => ⟨by rw [h1, if_neg (show ¬ (0 ≤ who ∧ who < 48) from h)], h2⟩
theorem Aj {i j : Int} (h : i = j) : Ending.returned (.int .i64 i) = .returned (.int .i64 j) := by rw [h]
theorem A81 (b : Nat) (N : Int) (qs : Qs) (who : Int) (s : ByteArray) (w0 w : World) (F0 : List Nat) (L G : List Res) (I : St w0 F0 w (QR b N qs :: L) G) (hN : 0 ≤ N) (hin : inR who) :
  Calls Tryz.prog 54 #[.pointer (some ⟨b, 0, none⟩), .int .i64 who, .string s] w fun e w' => e = .returned (.int .i64 (Sa qs who s)) ∧ St w0 F0 w' (QR b N (D4 qs who s) :: L) G := by
 obtain ⟨rows, hw, rfl, hsu⟩ := I.openQ; clear I; have I := hsu; clear hsu; have hm := hw.get hin.lt; have hr := hw.wf _ hm; have hpre := hw.pre hin.lt; rw [Ag7 hw hin.lt] at I; refine W.func func54 O ntmps54 O<|Wh O<|I.a O O<|Ds O O<|I.p O O<|I.u O O<|Oc O Ba0 O ?_; refine Ab (A4x b who _ hin) O ?_; rintro e w1 ⟨rfl, rfl⟩; refine ⟨_, O, ?_⟩; refine I.y O (Y.assignP O)<|Od O<|Wq O<|Wb O<|Wh O<|I.p O O<|I.y O (Y.isNil underlying94 O O)<|I.g O O<|Od O<|Wu O O<|Wh O<|I.p O O<|I.y O (Y.isNil underlying159 O O)<|I.g O O<|Od O<|Wu O O<|Wh O<|I.y O (Y.moveT O)<|I.y O (Y.lenT underlying9 O)<|I.V O O O (fun b20 hb20 => I.g O O<|Od O<|?_); cases b20
 ·replace hb20 := dF hb20; refine Wu O O<|Wh O<|I.p O O<|I.y O (Y.moveT O)<|Oc O Bvx O ?_; refine Ab (A30 b _ _ _ _ s _ _ _ _ _ I hpre hr) O ?_; rintro e w2 ⟨b24, rfl, hb24, I⟩; refine ⟨_, O, ?_⟩; cases b24
  ·replace hb24 := dF hb24; refine I.q O O<|I.g O O<|Od O<|Wt O O<|Wh O<|I.a O O<|Od O<|We O<|⟨_, Ac.one results54 O, ?_⟩; exact ⟨Aj (by rw [Y2 hw hin (by omega), if_pos (by omega)]), Uk hw hN hin (by omega) I⟩
  ·replace hb24 := dT hb24; refine I.q O O<|I.g O O<|Od O<|Wu O O<|Wk O<|Wh O<|I.a O O<|Od O<|We O<|⟨_, Ac.one results54 O, ?_⟩; exact ⟨Aj (by rw [Y2 hw hin (by omega), if_neg (by omega)]), Uk hw hN hin (by omega) I⟩
 ·replace hb20 := dT hb20; refine Wt O O<|Wh O<|I.a O O<|Od O<|We O<|⟨_, Ac.one results54 O, ?_⟩; exact ⟨Aj (by unfold Sa; rw [if_pos hin, if_neg (by omega)]), by unfold D4; rw [if_neg (fun h => by omega)]; rw [← Ag7 hw hin.lt] at I; exact St.shutQ' I hw⟩
theorem Au7 (b : Nat) (N : Int) (qs : Qs) (who : Int) (s : ByteArray) (w0 w : World) (F0 : List Nat) (L G : List Res) (I : St w0 F0 w (QR b N qs :: L) G) (hN : 0 ≤ N) (hin : ¬ inR who) :
  Calls Tryz.prog 54 #[.pointer (some ⟨b, 0, none⟩), .int .i64 who, .string s] w fun e w' => e = .returned (.int .i64 (Sa qs who s)) ∧ St w0 F0 w' (QR b N (D4 qs who s) :: L) G := by
 refine W.func func54 O ntmps54 O<|Wh O<|I.a O O<|Ds O O<|I.p O O<|I.u O O<|Oc O Ba0 O ?_; refine Ab (Akz b who _ hin) O ?_; rintro e w1 ⟨rfl, rfl⟩; refine ⟨_, O, ?_⟩; refine I.y O (Y.assignP O)<|Od O<|Wq O<|Wb O<|Wh O<|I.p O O<|I.y O (Y.isNil underlying94 O O)<|I.g O O<|Od O<|Wu O O<|Wh O<|I.p O O<|I.y O (Y.isNil underlying159 O O)<|I.g O O<|Od O<|Wt O O<|Wh O<|I.a O O<|Od O<|We O<|⟨_, Ac.one results54 O, ?_⟩; exact ⟨Aj (by unfold Sa; rw [if_neg hin]), by unfold D4; rw [if_neg (fun h => hin h.1)]; exact I⟩
theorem W7 (b : Nat) (N : Int) (qs : Qs) (who : Int) (s : ByteArray) (w0 w : World) (F0 : List Nat) (L G : List Res) (I : St w0 F0 w (QR b N qs :: L) G) (hN : 0 ≤ N) :
  Calls Tryz.prog 54 #[.pointer (some ⟨b, 0, none⟩), .int .i64 who, .string s] w fun e w' => e = .returned (.int .i64 (Sa qs who s)) ∧ St w0 F0 w' (QR b N (D4 qs who s) :: L) G := by
 by_cases h : inR who
 ·exact A81 b N qs who s w0 w F0 L G I hN h
 ·exact Au7 b N qs who s w0 w F0 L G I hN h
theorem Wv {x y : It} {c d : Bool} (h : x = y) (h2 : c = d) : Ending.returned (.tuple #[.agg #[.string x.1, .int .i64 x.2], .bool c]) = .returned (.tuple #[.agg #[.string y.1, .int .i64 y.2], .bool d]) := by rw [h, h2]
theorem Bi4 (b : Nat) (N : Int) (qs : Qs) (who : Int) (w0 w : World) (F0 : List Nat) (L G : List Res) (I : St w0 F0 w (QR b N qs :: L) G) (hN : 0 ≤ N) (hin : inR who) :
  Calls Tryz.prog 58 #[.pointer (some ⟨b, 0, none⟩), .int .i64 who] w fun e w' => ∃ c, e = .returned (.tuple #[.agg #[.string (Pt qs who).1, .int .i64 (Pt qs who).2], .bool c]) ∧ c = Yy qs who ∧ St w0 F0 w' (QR b N (Wm qs who) :: L) G := by
 obtain ⟨rows, hw, rfl, hsu⟩ := I.openQ; clear I; have I := hsu; clear hsu; have hm := hw.get hin.lt; have hr := hw.wf _ hm; have hpre := hw.pre hin.lt; rw [Ag7 hw hin.lt] at I; refine W.func func58 O ntmps58 O<|Wh O<|Ow O (X.allocA I zeroValue132<|?_); clear I; intro p4 w4 I; refine I.g O O<|Ds O O<|I.p O O<|I.u O O<|Oc O Ba0 O ?_; refine Ab (A4x b who _ hin) O ?_; rintro e w1 ⟨rfl, rfl⟩; refine ⟨_, O, ?_⟩; refine I.y O (Y.assignP O)<|Od O<|Wq O<|Wh O<|I.p O O<|I.y O (Y.isNil underlying159 O O)<|I.b O O<|I.p O O<|I.t O O<|I.f Gc O O<|I.y O (Y.load 1 isAgg3 O O (Hp hpre hr))<|I.Y O O O (fun b17 hb17 => I.k O O O<|Od O<|?_); cases b17
 ·replace hb17 := dF hb17; refine Wu O O<|Wk O<|Wh O<|I.p O O<|Oc O Bs3 O ?_; refine Ab (Ak2 b _ _ _ _ _ _ _ _ _ I.swap hpre hr (by omega)) O ?_; clear I; rintro e w2 ⟨rfl, I⟩; refine ⟨_, O, ?_⟩; replace I := I.swap; refine Ow O (X.storeS I 0 sizeOf132 O O O O O (lZ O) O O ?_); clear I; intro w4_2 I
  try simp only [List.set_cons_zero, List.set_cons_succ, Nat.zero_add, Nat.reduceAdd, splice, List.take, List.drop, List.append_eq, List.nil_append, List.cons_append, List.length_cons, List.length_nil] at I
  refine I.g O O<|Od O<|We O<|⟨_, Ac.cellTmp results58 O (Dp isAgg132 sizeOf132 O (fun j v h => by rw [B6, I.cell (.inl (List.Mem.head _)) (0 + j), Nat.zero_add]; exact h)) O, ?_⟩; refine ⟨_, Wv (Bd8 hw hin (by omega)).symm O, ?_, A2x hw hN hin (by omega) I.drop⟩; unfold Yy; rw [Iv hw hin]; exact (decide_eq_true ⟨hin, Az5 (by omega)⟩).symm
 ·replace hb17 := dT hb17; refine Wt O O<|Wh O<|I.y O (Aa1 O)<|Ow O (X.storeS I 0 sizeOf132 O O O O O (lZ O) O O<|?_); clear I; intro w3_1 I
  try simp only [List.set_cons_zero, List.set_cons_succ, Nat.zero_add, Nat.reduceAdd, splice, List.take, List.drop, List.append_eq, List.nil_append, List.cons_append, List.length_cons, List.length_nil] at I
  refine I.g O O<|Od O<|We O<|⟨_, Ac.cellTmp results58 O (Dp isAgg132 sizeOf132 O (fun j v h => by rw [B6, I.cell (.inl (List.Mem.head _)) (0 + j), Nat.zero_add]; exact h)) O, ?_⟩; have hn := Ap5 (r := rows.getD who.toNat zr) (by omega); have I := I.drop; rw [← Ag7 hw hin.lt] at I; refine ⟨_, Wv (x := e0) (by unfold Pt; rw [if_pos hin, Iv hw hin, hn]; rfl) rfl, ?_, ?_⟩
  ·unfold Yy; rw [Iv hw hin]; exact (decide_eq_false (fun h => h.2 hn)).symm
  ·have := St.shutQ' I hw; unfold Wm; rw [if_pos hin, Iv hw hin, hn, List.tail_nil, A5z (by rw [Kz hw hin.lt]; exact hn)]; exact this
theorem A80 (b : Nat) (N : Int) (qs : Qs) (who : Int) (w0 w : World) (F0 : List Nat) (L G : List Res) (I : St w0 F0 w (QR b N qs :: L) G) (hN : 0 ≤ N) (hin : ¬ inR who) :
  Calls Tryz.prog 58 #[.pointer (some ⟨b, 0, none⟩), .int .i64 who] w fun e w' => ∃ c, e = .returned (.tuple #[.agg #[.string (Pt qs who).1, .int .i64 (Pt qs who).2], .bool c]) ∧ c = Yy qs who ∧ St w0 F0 w' (QR b N (Wm qs who) :: L) G := by
 refine W.func func58 O ntmps58 O<|Wh O<|Ow O (X.allocA I zeroValue132<|?_); clear I; intro p4 w4 I; refine I.g O O<|Ds O O<|I.p O O<|I.u O O<|Oc O Ba0 O ?_; refine Ab (Akz b who _ hin) O ?_; rintro e w1 ⟨rfl, rfl⟩; refine ⟨_, O, ?_⟩; refine I.y O (Y.assignP O)<|Od O<|Wq O<|Wh O<|I.p O O<|I.y O (Y.isNil underlying159 O O)<|I.b O O<|On O<|On O<|On O<|On O<|On O<|I.k O O O<|Od O<|Wt O O<|Wh O<|I.y O (Aa1 O)<|Ow O (X.storeS I 0 sizeOf132 O O O O O (lZ O) O O<|?_); clear I; intro w3_1 I
 try simp only [List.set_cons_zero, List.set_cons_succ, Nat.zero_add, Nat.reduceAdd, splice, List.take, List.drop, List.append_eq, List.nil_append, List.cons_append, List.length_cons, List.length_nil] at I
 refine I.g O O<|Od O<|We O<|⟨_, Ac.cellTmp results58 O (Dp isAgg132 sizeOf132 O (fun j v h => by rw [B6, I.cell (.inl (List.Mem.head _)) (0 + j), Nat.zero_add]; exact h)) O, ?_⟩; refine ⟨_, Wv (x := e0) (by unfold Pt; rw [if_neg hin]) rfl, ?_, ?_⟩
 ·unfold Yy; exact (decide_eq_false (fun h => hin h.1)).symm
 ·unfold Wm; rw [if_neg hin]; exact I.drop
theorem A7z (b : Nat) (N : Int) (qs : Qs) (who : Int) (w0 w : World) (F0 : List Nat) (L G : List Res) (I : St w0 F0 w (QR b N qs :: L) G) (hN : 0 ≤ N) :
  Calls Tryz.prog 58 #[.pointer (some ⟨b, 0, none⟩), .int .i64 who] w fun e w' => ∃ c, e = .returned (.tuple #[.agg #[.string (Pt qs who).1, .int .i64 (Pt qs who).2], .bool c]) ∧ c = Yy qs who ∧ St w0 F0 w' (QR b N (Wm qs who) :: L) G := by
 by_cases h : inR who
 ·exact Bi4 b N qs who w0 w F0 L G I hN h
 ·exact A80 b N qs who w0 w F0 L G I hN h
end
end Go.Proofs.YtaanjifekgfemaaGreat.LN
namespace Go.Proofs.YtaanjifekgfemaaGreat.Cl
section
open Tryz Go.RowKit YtaanjifekgfemaaGreat.K YtaanjifekgfemaaGreat.W YtaanjifekgfemaaGreat.LN
structure PU where
  who : Int
  s : Stt
  es : NT
  qs : Qs
structure UM where
  u : PU
  fb : Nat
  lb : Nat
  tb : Nat
  mb : Nat
  A : Option Addr
  cap : Nat
  clock : Nat
def UM.gate (m : UM) : Bool := decide (m.u.who < 16)
def UM.un (m : UM) : Un := ⟨m.u.who, match m.gate with | true => 150 | false => 154, m.fb, m.lb⟩
def Xv (p : Par) (m : UM) : Res := frR m.fb 153 p m.u.s m.A m.cap [.int .i64 m.u.who]
def Ys (p : Par) (m : UM) : Res := frR m.fb 158 p m.u.s m.A m.cap [.int .i64 m.u.who, .pointer (some ⟨m.tb, 0, none⟩)]
def UM.fres (p : Par) (m : UM) : List Res := match m.gate with
  | true => [Xv p m]
  | false => [Ys p m, Aa m.tb [.map (some m.mb)] 204, C9 ikE nrV m.mb m.u.es m.clock]
def UM.lres (m : UM) : Res := QR m.lb 0 m.u.qs
structure UM.Ok (p : Par) (G : List Res) (m : UM) : Prop where
  fit : m.u.s.Fit p
  tab : Rds [] G (.slice m.A m.u.s.tab.length m.cap) m.u.s.tab.length (lcs m.u.s.tab)
  near : NearFit m.u.es
  qs : ∀ q ∈ m.u.qs, ∀ x ∈ q, x.1.size ≤ 4096
theorem UM.Ok.mono {p : Par} {G G' : List Res} {m : UM} (h : m.Ok p G) (hG : ∀ r ∈ G, r ∈ G') : m.Ok p G' := ⟨h.fit, h.tab.moreG hG, h.near, h.qs⟩
def qs0 : Qs := List.replicate 48 []
def E2 (p : Par) (who : Int) (s : Stt) : PU := ⟨who, Bf p s, [], qs0⟩
theorem Pd : NearFit [] := ⟨by simp, by simp, by simp⟩
theorem Qa : ∀ q ∈ qs0, ∀ x ∈ q, x.1.size ≤ 4096 := by
 intro q hq x hx; rw [List.eq_of_mem_replicate hq] at hx; cases hx
def unL (us : List UM) : List Un := us.map UM.un
end
section
open Tryz Go.RowKit YtaanjifekgfemaaGreat.K YtaanjifekgfemaaGreat.W YtaanjifekgfemaaGreat.LN
attribute [local irreducible] Bg Ak Bb sub neg mag Da mul Dy
theorem Xe {S ρ ty} {parts : Array (Nat × Operand)} {x0 : Int} {x3 : Option Addr} (hp : (parts.toList.map fun x => (x.1, ev ρ x.2)) = [(0, .int .i64 x0), (3, Value.pointer x3)]) : Y Tryz.prog S ρ (.build 96 parts) ty (.agg #[.int .i64 x0, Value.nilIface, Value.pointer none, Value.pointer x3]) :=
 Y.build hp fun w => by simp [Instr.build, go_sem]
theorem N2 : FA 86 0 0 := fun _ _ => by simp [Instr.fieldAt, Instr.sureAddr, go_sem]
theorem Abz : FA 96 1 1 := fun _ _ => by simp [Instr.fieldAt, Instr.sureAddr, go_sem]
theorem Ac0 : FA 96 2 2 := fun _ _ => by simp [Instr.fieldAt, Instr.sureAddr, go_sem]
theorem Bs1 : CF 71 := fun _ _ => by simp [go_sem]
theorem Bv8 : CF 72 := fun _ _ => by simp [go_sem]
theorem Bv9 : CF 73 := fun _ _ => by simp [go_sem]
theorem St.newQ {w0 w : World} {F0 : List Nat} {L G : List Res} {b : Nat} (h : St w0 F0 w (Aa b (Cr (List.replicate 48 zr)) 190 :: L) G) : St w0 F0 w (QR b 0 qs0 :: L) G := St.shutQ (rows := List.replicate 48 zr) h Blx Ar0
theorem Ac2 (wb : Nat) (p : Par) (time : Int) (U V : Value) (hp : p.Ok) (who : Int) (hw : who < 16) (s : Stt) (A : Option Addr) (cap : Nat) (hT : Bn s.tab) (w0 w : World) (F0 : List Nat) (L G : List Res) (I : St w0 F0 w (Aa wb (wC p time U V) 86 :: L) G) (hr : Rds [] G (.slice A (s.tab).length cap) (s.tab).length (lcs (s.tab))) :
  Calls Tryz.prog 49 #[.pointer (some ⟨wb, 0, none⟩), .int .i64 who, .agg #[.int .i64 s.lo, .int .i64 s.hi, .int .i64 s.time, .bool s.set, .int .i64 s.held, .int .i64 s.hops, .bool s.good, .slice A s.tab.length cap, .int .i64 s.st, .int .i64 s.sn, .int .i64 s.life]] w fun e w' => ∃ (m : UM) (G' : List Res), e = .returned (.agg (unC m.un).toArray) ∧ m.u = E2 p who s ∧ (∀ r ∈ G, r ∈ G') ∧ m.Ok p G' ∧ St w0 F0 w' (Xv p m :: m.lres :: Aa wb (wC p time U V) 86 :: L) G' := by
 refine W.func func49 O ntmps49 O<|Wh O<|Ow O (X.boxA I O fun p5 w5 I => Ow O (X.allocA I zeroValue96 fun p6 w6 I => Ds O O<|I.u O O<|Oc O Bs1 O ?_)); refine Ab (Go.Proofs.YtaanjifekgfemaaGreat.LN.new_any _ _ _ _ _ I) O ?_; clear I; rintro e w11 ⟨lb, rfl, I⟩; replace I := St.newQ I; refine ⟨_, O, ?_⟩; refine I.y O (Xe O)<|Ow O (X.allocA I zeroValue96 fun p7 w7 I => Ow O (X.storeS I 0 sizeOf96 O O O O O (lZ O) O O fun _ I => Od O<|Wq O<|Wh O<|I.u O O<|I.v O O O (fun b14 hb14 => Od O<|?_))); cases b14
 ·replace hb14 := dF hb14; exact absurd hw hb14
 ·replace hb14 := dT hb14; refine Wt O O<|Wq O<|W.drawn O (by kernel_rfl) (Ctx _ _ (_) (_)) [6, 7] (.op 0 0 (.op 1 0 (.op 2 0 (.op 3 0 (.op 4 0 (.op 5 0 (.op 6 1 (.op 7 1 .nil)))))))) O (by kernel_rfl) I.drew.ctx<|?_; replace I := I.drew; generalize World.drew _ = wd at I ⊢; refine I.zp O O<|I.zt O O<|I.zf N2 O O<|I.z O (Y.loadA 4 isAgg23 sizeOf23 O O O O)<|I.zu O O<|I.z O (Y.loadA 3 isAgg57 sizeOf57 O O O O)<|Drw.z O O O O (X.call Bv8 O<|?_); refine Ab (Ay5 p who s A cap hT _ _ _ _ _ I hr) O ?_; clear I; rintro e w21 ⟨fb, A2, c2, rfl, I⟩; refine ⟨_, O, ?_⟩; refine Drw.zy O O O O I.ctx (Y.assignP O)<|Dd<|Wq O<|W.drawn O (by kernel_rfl) (Ctx _ _ (_) (_)) [6, 7, 8] (.op 0 0 (.op 1 0 (.op 2 2 (.op 3 2 (.op 4 2 (.op 5 0 (.op 6 1 (.op 7 1 (.op 8 1 .nil))))))))) O (by kernel_rfl) I.drew.ctx<|?_; replace I := I.drew; generalize World.drew _ = wd at I ⊢; refine I.zp O O<|I.z O (Y.makeIface underlying150 O)<|Drw.ya O O O I.ctx (Y.moveP O)<|Drw.ya O O O I.ctx (Y.nilCheck O)<|Drw.ya O O O I.ctx (Y.fieldAddr Jv O)<|I.zf Abz O O<|Drw.z O O O O (X.storeV I 1 (.iface _ _) sizeOf93 O O O O (lZ O) O O fun _ I => Drw.zy O O O O I.ctx (Y.fieldAddr Ac0 O)<|Drw.z O O O O (X.storeV I 1 (.pointer _) sizeOf50 O O O O (lZ O) O O fun _ I => Dd<|Wh O<|I.y O (Y.loadA 1 isAgg96 sizeOf96 O O O O)<|Ow O (X.storeS I 3 sizeOf96 O O O O O (lZ O) O O fun _ I => Od O<|We O<|⟨_, Ac.cell results49 O (Bd isAgg96 sizeOf96 3 I O O), ?_⟩))); have hg : (⟨E2 p who s, fb, lb, 0, 0, A2, c2, 0⟩ : UM).gate = true := decide_eq_true hw; exact ⟨⟨E2 p who s, fb, lb, 0, 0, A2, c2, 0⟩, _, by unfold UM.un; rw [hg]; rfl, rfl, fun r hr => .tail _ hr, ⟨Sk hp s, Rds.rowG 0 rfl, Pd, Qa⟩, (I.sub (.cons_cons _ (.cons _ (.cons_cons _ (.cons _ (.cons _ (.cons_cons _ (.refl _))))))))⟩
theorem Ac3 (wb : Nat) (p : Par) (time : Int) (U V : Value) (hp : p.Ok) (who : Int) (hw : ¬ who < 16) (s : Stt) (A : Option Addr) (cap : Nat) (hT : Bn s.tab) (w0 w : World) (F0 : List Nat) (L G : List Res) (I : St w0 F0 w (Aa wb (wC p time U V) 86 :: L) G) (hr : Rds [] G (.slice A (s.tab).length cap) (s.tab).length (lcs (s.tab))) :
  Calls Tryz.prog 49 #[.pointer (some ⟨wb, 0, none⟩), .int .i64 who, .agg #[.int .i64 s.lo, .int .i64 s.hi, .int .i64 s.time, .bool s.set, .int .i64 s.held, .int .i64 s.hops, .bool s.good, .slice A s.tab.length cap, .int .i64 s.st, .int .i64 s.sn, .int .i64 s.life]] w fun e w' => ∃ (m : UM) (G' : List Res), e = .returned (.agg (unC m.un).toArray) ∧ m.u = E2 p who s ∧ (∀ r ∈ G, r ∈ G') ∧ m.Ok p G' ∧ St w0 F0 w' (Ys p m :: Aa m.tb [.map (some m.mb)] 204 :: C9 ikE nrV m.mb m.u.es m.clock :: m.lres :: Aa wb (wC p time U V) 86 :: L) G' := by
 refine W.func func49 O ntmps49 O<|Wh O<|Ow O (X.boxA I O fun p5 w5 I => Ow O (X.allocA I zeroValue96 fun p6 w6 I => Ds O O<|I.u O O<|Oc O Bs1 O ?_)); refine Ab (Go.Proofs.YtaanjifekgfemaaGreat.LN.new_any _ _ _ _ _ I) O ?_; clear I; rintro e w11 ⟨lb, rfl, I⟩; replace I := St.newQ I; refine ⟨_, O, ?_⟩; refine I.y O (Xe O)<|Ow O (X.allocA I zeroValue96 fun p7 w7 I => Ow O (X.storeS I 0 sizeOf96 O O O O O (lZ O) O O fun _ I => Od O<|Wq O<|Wh O<|I.u O O<|I.v O O O (fun b14 hb14 => Od O<|?_))); cases b14
 ·replace hb14 := dF hb14; refine Wu O O<|Wk O<|Wq O<|W.drawn O (by kernel_rfl) (Ctx _ _ (_) (_)) [6, 7] (.op 0 0 (.op 1 0 (.op 2 0 (.op 3 0 (.op 4 0 (.op 5 0 (.op 6 1 (.op 7 1 .nil)))))))) O (by kernel_rfl) I.drew.ctx<|?_; replace I := I.drew; generalize World.drew _ = wd at I ⊢; refine I.zp O O<|I.zt O O<|I.zf N2 O O<|I.z O (Y.loadA 4 isAgg23 sizeOf23 O O O O)<|I.zu O O<|I.z O (Y.loadA 3 isAgg57 sizeOf57 O O O O)<|Drw.z O O O O (X.call Bv9 O<|?_); refine Ab (A15 p who s A cap hT _ _ _ _ _ I hr) O ?_; clear I; rintro e w36 ⟨fb, A2, c2, tb, mb, rfl, I⟩; refine ⟨_, O, ?_⟩; refine Drw.zy O O O O I.ctx (Y.assignP O)<|Dd<|Wq O<|W.drawn O (by kernel_rfl) (Ctx _ _ (_) (_)) [6, 7, 8] (.op 0 0 (.op 1 0 (.op 2 2 (.op 3 2 (.op 4 2 (.op 5 0 (.op 6 1 (.op 7 1 (.op 8 1 .nil))))))))) O (by kernel_rfl) I.drew.ctx<|?_; replace I := I.drew; generalize World.drew _ = wd at I ⊢; refine I.zp O O<|I.z O (Y.makeIface underlying154 O)<|Drw.ya O O O I.ctx (Y.moveP O)<|Drw.ya O O O I.ctx (Y.nilCheck O)<|Drw.ya O O O I.ctx (Y.fieldAddr C7 O)<|I.zf Abz O O<|Drw.z O O O O (X.storeV I 3 (.iface _ _) sizeOf93 O O O O (lZ O) O O fun _ I => Drw.zy O O O O I.ctx (Y.fieldAddr Ac0 O)<|Drw.z O O O O (X.storeV I 3 (.pointer _) sizeOf50 O O O O (lZ O) O O fun _ I => Dd<|Wh O<|I.y O (Y.loadA 3 isAgg96 sizeOf96 O O O O)<|Ow O (X.storeS I 5 sizeOf96 O O O O O (lZ O) O O fun _ I => Od O<|We O<|⟨_, Ac.cell results49 O (Bd isAgg96 sizeOf96 5 I O O), ?_⟩))); have hg : (⟨E2 p who s, fb, lb, tb, mb, A2, c2, 0⟩ : UM).gate = false := decide_eq_false hw; exact ⟨⟨E2 p who s, fb, lb, tb, mb, A2, c2, 0⟩, _, by unfold UM.un; rw [hg]; rfl, rfl, fun r hr => .tail _ hr, ⟨Sk hp s, Rds.rowG 0 rfl, Pd, Qa⟩, (I.sub (.cons_cons _ (.cons_cons _ (.cons_cons _ (.cons _ (.cons_cons _ (.cons _ (.cons _ (.cons_cons _ (.refl _))))))))))⟩
 ·replace hb14 := dT hb14; exact absurd hb14 hw
theorem N5 (wb : Nat) (p : Par) (time : Int) (U V : Value) (hp : p.Ok) (who : Int) (s : Stt) (A : Option Addr) (cap : Nat) (hT : Bn s.tab) (w0 w : World) (F0 : List Nat) (L G : List Res) (I : St w0 F0 w (Aa wb (wC p time U V) 86 :: L) G) (hr : Rds [] G (.slice A (s.tab).length cap) (s.tab).length (lcs (s.tab))) :
  Calls Tryz.prog 49 #[.pointer (some ⟨wb, 0, none⟩), .int .i64 who, .agg #[.int .i64 s.lo, .int .i64 s.hi, .int .i64 s.time, .bool s.set, .int .i64 s.held, .int .i64 s.hops, .bool s.good, .slice A s.tab.length cap, .int .i64 s.st, .int .i64 s.sn, .int .i64 s.life]] w fun e w' => ∃ (m : UM) (G' : List Res), e = .returned (.agg (unC m.un).toArray) ∧ m.u = E2 p who s ∧ (∀ r ∈ G, r ∈ G') ∧ m.Ok p G' ∧ St w0 F0 w' (Aa wb (wC p time U V) 86 :: m.lres :: (m.fres p ++ L)) G' := by
 have key : ∀ (A B : List Res) (x y : Res), (A ++ (x :: y :: B)).Perm (y :: x :: (A ++ B)) := fun A B x y =>
  (List.perm_middle.trans (List.perm_middle.cons x)).trans (List.Perm.swap y x _)
 by_cases h : who < 16
 ·refine (Ac2 wb p time U V hp who h s A cap hT _ _ _ _ _ I hr).mono ?_; rintro e w' ⟨m, G', h1, h2, h3, h4, h5⟩; have hg : m.gate = true := by unfold UM.gate; rw [h2]; exact decide_eq_true h
  have hf : m.fres p = [Xv p m] := by unfold UM.fres; rw [hg]
  exact ⟨m, G', h1, h2, h3, h4, by rw [hf]; exact h5.perm (key [_] _ _ _)⟩
 ·refine (Ac3 wb p time U V hp who h s A cap hT _ _ _ _ _ I hr).mono ?_; rintro e w' ⟨m, G', h1, h2, h3, h4, h5⟩; have hg : m.gate = false := by unfold UM.gate; rw [h2]; exact decide_eq_false h
  have hf : m.fres p = [Ys p m, Aa m.tb [.map (some m.mb)] 204, C9 ikE nrV m.mb m.u.es m.clock] := by unfold UM.fres; rw [hg]
  exact ⟨m, G', h1, h2, h3, h4, by rw [hf]; exact h5.perm (key [_, _, _] _ _ _)⟩
theorem Q7 : FA 96 3 3 := fun _ _ => by simp [Instr.fieldAt, Instr.sureAddr, go_sem]
theorem Bj7 : CF 49 := fun _ _ => by simp [go_sem]
theorem Brq : CF 54 := fun _ _ => by simp [go_sem]
theorem Qf (wb : Nat) (p : Par) (time : Int) (ub : Nat) (us : List Un) (uc : Nat) (LA : Option Addr) (nl lc : Nat) (who : Int) (hul : us.length ≤ 1000000) (i : Nat) (hi : Di (isU who) us = (i : Int)) (w0 w : World) (F0 : List Nat) (L G : List Res) (I : St w0 F0 w (Aa wb (wC p (time) (.slice (some ⟨ub, 0, none⟩) us.length uc) (.slice LA nl lc)) 86 :: L) G) (hru : Rds L G (.slice (some ⟨ub, 0, none⟩) us.length uc) us.length (Ae unC us)) :
  Calls Tryz.prog 34 #[.pointer (some ⟨wb, 0, none⟩), .int .i64 who] w fun e w' => e = .returned (.pointer (some ⟨ub, i * 4, none⟩)) ∧ St w0 F0 w' (Aa wb (wC p (time) (.slice (some ⟨ub, 0, none⟩) us.length uc) (.slice LA nl lc)) 86 :: L) G := by
 have hq : Gz us who ub = some ⟨ub, i * 4, none⟩ := by unfold Gz; rw [hi, if_neg (by omega)]; rfl
 rw [← hq]; exact Nr wb p time ub us uc LA nl lc who hul _ _ _ _ _ I hru
theorem Zq (wb : Nat) (p : Par) (time : Int) (ub : Nat) (us : List Un) (uc : Nat) (LA : Option Addr) (nl lc : Nat) (who : Int) (hul : us.length ≤ 1000000) (hi : Di (isU who) us < 0) (w0 w : World) (F0 : List Nat) (L G : List Res) (I : St w0 F0 w (Aa wb (wC p (time) (.slice (some ⟨ub, 0, none⟩) us.length uc) (.slice LA nl lc)) 86 :: L) G) (hru : Rds L G (.slice (some ⟨ub, 0, none⟩) us.length uc) us.length (Ae unC us)) :
  Calls Tryz.prog 34 #[.pointer (some ⟨wb, 0, none⟩), .int .i64 who] w fun e w' => e = .returned (.pointer none) ∧ St w0 F0 w' (Aa wb (wC p (time) (.slice (some ⟨ub, 0, none⟩) us.length uc) (.slice LA nl lc)) 86 :: L) G := by
 have hq : Gz us who ub = none := by unfold Gz; rw [if_pos hi]
 rw [← hq]; exact Nr wb p time ub us uc LA nl lc who hul _ _ _ _ _ I hru
theorem A28 {α : Type} (x y a b : α) (F L : List α) : (x :: y :: (F ++ (a :: b :: L))).Perm (x :: a :: b :: y :: (F ++ L)) := by
 have h1 : (F ++ (a :: b :: L)).Perm (a :: b :: (F ++ L)) := List.perm_middle.trans (List.perm_middle.cons a); exact ((h1.cons y).trans (List.perm_middle (l₁ := [a, b])).symm).cons x
theorem Ayz {us : List Un} {who : Int} {i : Nat} (hi : Di (isU who) us = (i : Int)) : i < us.length := by have := Ai5 (p := isU who) (l := us) (by omega); omega
set_option maxHeartbeats 1000000 in
theorem Av5 (wb : Nat) (p : Par) (time : Int) (ub : Nat) (us : List Un) (uc : Nat) (LA : Option Addr) (nl lc : Nat) (hp : p.Ok) (who : Int) (s : Stt) (A : Option Addr) (cap : Nat) (hT : Bn s.tab) (hul : us.length ≤ 1000000) (i : Nat) (hi : Di (isU who) us = (i : Int)) (w0 w : World) (F0 : List Nat) (L G : List Res) (I : St w0 F0 w (Aa wb (wC p (time) (.slice (some ⟨ub, 0, none⟩) us.length uc) (.slice LA nl lc)) 86 :: Af (.slice (some ⟨ub, 0, none⟩) us.length uc) 96 4 us.length (Ae unC (us)) :: L) G) (hr : Rds [] G (.slice A (s.tab).length cap) (s.tab).length (lcs (s.tab))) :
  Calls Tryz.prog 25 #[.pointer (some ⟨wb, 0, none⟩), .int .i64 who, .agg #[.int .i64 s.lo, .int .i64 s.hi, .int .i64 s.time, .bool s.set, .int .i64 s.held, .int .i64 s.hops, .bool s.good, .slice A s.tab.length cap, .int .i64 s.st, .int .i64 s.sn, .int .i64 s.life]] w fun e w' => ∃ (m : UM) (G' : List Res), e = .returned (.tuple #[]) ∧ m.u = E2 p who s ∧ (∀ r ∈ G, r ∈ G') ∧ m.Ok p G' ∧ St w0 F0 w' (Aa wb (wC p (time) (.slice (some ⟨ub, 0, none⟩) us.length uc) (.slice LA nl lc)) 86 :: Af (.slice (some ⟨ub, 0, none⟩) us.length uc) 96 4 us.length (Ae unC (us.set i m.un)) :: m.lres :: (m.fres p ++ L)) G' := by
 have hlt := Ayz hi; refine W.func func25 O ntmps25 O<|Wh O<|Ow O (X.boxA I O fun p5 w5 I => Ds O O<|I.p O O<|I.u O O<|Ow O (X.ret Xi (dn1 (Qf wb p time ub us uc LA nl lc who hul i hi _ _ _ _ _ I.up_1 (Rds.rowL 1 O))) O fun _ I => I.y O (Y.assignP O)<|Ds O O<|I.p O O<|I.y O (Y.notNil underlying91 O O)<|Od O<|Wt O O<|Wr O<|I.p O O<|I.p O O<|I.u O O<|I.y O (Y.loadA 0 isAgg57 sizeOf57 O O O O)<|Oc O Bj7 O ?_)); refine Ab (N5 wb p time _ _ hp who s A cap hT _ _ _ _ _ I.up_1 hr) O ?_; clear I; rintro e w16 ⟨m, G', rfl, hmu, hG, hok, I⟩; replace I := (I.perm (A28 _ _ _ _ _ _)).dn1; refine ⟨_, O, ?_⟩; refine I.t O O<|Ow O (X.storeRow I 2 sizeOf96 (b := ub) (i := i * 4) O O O O (fun v hv => Bf4 _ v hv) (by omega) fun _ I => Od O<|⟨_, Ac.none results25, ?_⟩); have hst2 := (I.dr 1); have he : Go.Proofs.YtaanjifekgfemaaGreat.K.splice (Ae unC us) (i * 4) (unC m.un) = Ae unC (us.set i m.un) := Ra D1 us i m.un hlt; rw [he] at hst2; exact ⟨m, G', O, hmu, hG, hok, hst2⟩
theorem Amq (wb : Nat) (p : Par) (time : Int) (ub : Nat) (us : List Un) (uc : Nat) (LA : Option Addr) (nl lc : Nat) (who : Int) (s : Stt) (A : Option Addr) (cap : Nat) (hul : us.length ≤ 1000000) (hi : Di (isU who) us < 0) (w0 w : World) (F0 : List Nat) (L G : List Res) (I : St w0 F0 w (Aa wb (wC p (time) (.slice (some ⟨ub, 0, none⟩) us.length uc) (.slice LA nl lc)) 86 :: Af (.slice (some ⟨ub, 0, none⟩) us.length uc) 96 4 us.length (Ae unC (us)) :: L) G) :
  Calls Tryz.prog 25 #[.pointer (some ⟨wb, 0, none⟩), .int .i64 who, .agg #[.int .i64 s.lo, .int .i64 s.hi, .int .i64 s.time, .bool s.set, .int .i64 s.held, .int .i64 s.hops, .bool s.good, .slice A s.tab.length cap, .int .i64 s.st, .int .i64 s.sn, .int .i64 s.life]] w fun e w' => e = .returned (.tuple #[]) ∧ St w0 F0 w' (Aa wb (wC p (time) (.slice (some ⟨ub, 0, none⟩) us.length uc) (.slice LA nl lc)) 86 :: Af (.slice (some ⟨ub, 0, none⟩) us.length uc) 96 4 us.length (Ae unC (us)) :: L) G := by
 refine W.func func25 O ntmps25 O<|Wh O<|Ow O (X.boxA I O fun p5 w5 I => Ds O O<|I.p O O<|I.u O O<|Ow O (X.ret Xi (dn1 (Zq wb p time ub us uc LA nl lc who hul hi _ _ _ _ _ I.up_1 (Rds.rowL 1 O))) O fun _ I => I.y O (Y.assignP O)<|Ds O O<|I.p O O<|I.y O (Y.notNil underlying91 O O)<|Od O<|Wu O O<|Wk O<|⟨_, Ac.none results25, ?_⟩)); exact ⟨O, (I.dr 1)⟩
theorem Bm5 (wb : Nat) (p : Par) (time : Int) (ub : Nat) (us : List Un) (uc : Nat) (LA : Option Addr) (nl lc : Nat) (l : Int × Int) (fr : ByteArray) (qs : Qs) (hul : us.length ≤ 1000000) (i : Nat) (hi : Di (isU l.2) us = (i : Int)) (hlt : i < us.length) (w0 w : World) (F0 : List Nat) (L G : List Res) (I : St w0 F0 w (Aa wb (wC p (time) (.slice (some ⟨ub, 0, none⟩) us.length uc) (.slice LA nl lc)) 86 :: QR us[i].lb 0 qs :: L) G) (hru : Rds L G (.slice (some ⟨ub, 0, none⟩) us.length uc) us.length (Ae unC us)) :
  Calls Tryz.prog 26 #[.pointer (some ⟨wb, 0, none⟩), .agg (Aq l).toArray, .string fr] w fun e w' => ∃ v, e = .returned v ∧ St w0 F0 w' (Aa wb (wC p (time) (.slice (some ⟨ub, 0, none⟩) us.length uc) (.slice LA nl lc)) 86 :: QR us[i].lb 0 (D4 qs l.1 fr) :: L) G := by
 have hru0 := hru; replace hru := (hru.cons (QR us[i].lb 0 qs)).cons (Aa wb (wC p (time) (.slice (some ⟨ub, 0, none⟩) us.length uc) (.slice LA nl lc)) 86); refine W.func func26 O ntmps26 O<|Wh O<|Ow O (X.boxA I O fun p4 w4 I => I.a O O<|Ds O O<|I.p O O<|I.f Kq O O<|I.l 0 O O O O<|Ow O (X.ret Xi (dn1 (Qf wb p time ub us uc LA nl lc l.2 hul i hi _ _ _ _ _ I.up_1 ((hru0.cons _).cons _))) O fun _ I => I.y O (Y.assignP O)<|Od O<|Wq O<|Wb O<|Wh O<|I.p O O<|I.y O (Y.isNil underlying45 O O)<|I.g O O<|Od O<|Wu O O<|Wh O<|I.p O O<|I.y O (Y.isNil underlying91 O O)<|I.g O O<|Od O<|Wu O O<|Wk O<|Wq O<|W.drawn O (by kernel_rfl) (Ctx _ _ (_) (_)) [7, 8] (.op 0 0 (.op 1 0 (.op 2 0 (.op 3 0 (.op 4 0 (.op 5 0 (.op 6 0 (.op 7 1 (.op 8 1 .nil))))))))) O (by kernel_rfl) I.drew.ctx<|?_)); replace I := I.drew; generalize World.drew _ = wd at I ⊢; refine I.zp O O<|I.zt O O<|I.zf Q7 O O<|I.z O (Y.loadCell isAgg94 O (hru.cons _) ((C4 D1 us i 3 hlt (by decide)).trans O))<|?_; refine I.zf Ma O O<|I.zl 0 O O O O<|I.z O (Y.moveT O)<|Drw.z O O O O (X.ret Brq (dn2 (W7 us[i].lb 0 qs l.1 fr _ _ _ _ _ I.up_2 (by decide))) O fun _ I => ?_); refine Drw.zy O O O O I.ctx (Y.assignI O)<|Dd<|We O<|⟨_, Ac.one results26 O, ?_⟩; exact ⟨_, O, (I.dr 1)⟩
theorem Bdz (wb : Nat) (p : Par) (time : Int) (ub : Nat) (us : List Un) (uc : Nat) (LA : Option Addr) (nl lc : Nat) (l : Int × Int) (fr : ByteArray) (hul : us.length ≤ 1000000) (hi : Di (isU l.2) us < 0) (w0 w : World) (F0 : List Nat) (L G : List Res) (I : St w0 F0 w (Aa wb (wC p (time) (.slice (some ⟨ub, 0, none⟩) us.length uc) (.slice LA nl lc)) 86 :: L) G) (hru : Rds L G (.slice (some ⟨ub, 0, none⟩) us.length uc) us.length (Ae unC us)) :
  Calls Tryz.prog 26 #[.pointer (some ⟨wb, 0, none⟩), .agg (Aq l).toArray, .string fr] w fun e w' => ∃ v, e = .returned v ∧ St w0 F0 w' (Aa wb (wC p (time) (.slice (some ⟨ub, 0, none⟩) us.length uc) (.slice LA nl lc)) 86 :: L) G := by
 refine W.func func26 O ntmps26 O<|Wh O<|Ow O (X.boxA I O fun p4 w4 I => I.a O O<|Ds O O<|I.p O O<|I.f Kq O O<|I.l 0 O O O O<|Ow O (X.ret Xi (dn1 (Zq wb p time ub us uc LA nl lc l.2 hul hi _ _ _ _ _ I.up_1 (hru.cons _))) O fun _ I => I.y O (Y.assignP O)<|Od O<|Wq O<|Wb O<|Wh O<|I.p O O<|I.y O (Y.isNil underlying45 O O)<|I.g O O<|Od O<|Wu O O<|Wh O<|I.p O O<|I.y O (Y.isNil underlying91 O O)<|I.g O O<|Od O<|Wt O O<|Wh O<|I.a O O<|Od O<|We O<|⟨_, Ac.one results26 O, ?_⟩)); exact ⟨_, O, (I.dr 1)⟩
theorem Ay2 (wb : Nat) (p : Par) (time : Int) (ub : Nat) (us : List Un) (uc : Nat) (LA : Option Addr) (nl lc : Nat) (who : Int) (hul : us.length ≤ 1000000) (i : Nat) (hi : Di (isU who) us = (i : Int)) (hlt : i < us.length) (w0 w : World) (F0 : List Nat) (L G : List Res) (I : St w0 F0 w (Aa wb (wC p (time) (.slice (some ⟨ub, 0, none⟩) us.length uc) (.slice LA nl lc)) 86 :: L) G) (hru : Rds L G (.slice (some ⟨ub, 0, none⟩) us.length uc) us.length (Ae unC us)) :
  Calls Tryz.prog 11 #[.pointer (some ⟨wb, 0, none⟩), .int .i64 who] w fun e w' => e = .returned (.pointer (some ⟨us[i].fb, 0, none⟩)) ∧ St w0 F0 w' (Aa wb (wC p (time) (.slice (some ⟨ub, 0, none⟩) us.length uc) (.slice LA nl lc)) 86 :: L) G := by
 have hru2 := hru.cons (Aa wb (wC p (time) (.slice (some ⟨ub, 0, none⟩) us.length uc) (.slice LA nl lc)) 86); refine W.func func11 O ntmps11 O<|Wh O<|I.y O (Y.assignP O)<|Od O<|Wq O<|Wh O<|I.p O O<|I.u O O<|Ow O (X.ret Xi (Qf wb p time ub us uc LA nl lc who hul i hi _ _ _ _ _ I hru) O fun _ I => I.y O (Y.assignP O)<|Ds O O<|I.p O O<|I.y O (Y.notNil underlying91 O O)<|Od O<|Wt O O<|Wh O<|I.p O O<|I.t O O<|I.f Ac0 O O<|I.y O (Y.loadCell isAgg50 O hru2 ((C4 D1 us i 2 hlt (by decide)).trans O))<|?_); refine I.y O (Y.assignP O)<|Od O<|We O<|⟨_, Ac.one results11 O, ?_⟩; exact ⟨O, I⟩
end
end Go.Proofs.YtaanjifekgfemaaGreat.Cl
namespace Go.Proofs.YtaanjifekgfemaaGreat.W
section
open Tryz Go.RowKit YtaanjifekgfemaaGreat.K YtaanjifekgfemaaGreat.CM
theorem Bbx {l : List UInt8} (h : l.length = 4) : ∃ a b c d, l = [a, b, c, d] := by
 match l, h with
 | [a, b, c, d], _ => exact ⟨a, b, c, d, rfl⟩
theorem A20 (v : Value) (l : List UInt8) (w0 w : World) (F0 : List Nat) (L G : List Res) (I : St w0 F0 w L G) (h : Rds L G v l.length (bvs l)) (hl : l.length ≤ 1000000) :
  Calls Tryz.prog 83 #[v] w fun e w' => ∃ u, ∃ b, e = .returned (.tuple #[u, .bool b]) ∧ b = decide (opn l ≠ none) ∧ St w0 F0 w' (Af u 5 1 ((opn l).getD []).length (bvs ((opn l).getD [])) :: L) G := by
 by_cases h4 : l.length < 4
 ·refine (CW.open_short v l w0 w F0 L G I h h4).mono ?_; rintro e w' ⟨rfl, I⟩; have e : opn l = none := by unfold opn; rw [if_pos h4]
  rw [e]; exact ⟨_, false, O, by simp, I.nilRow 5 1⟩
 ·have hd : (l.drop (l.length - 4)).length = 4 := by rw [List.length_drop]; omega
  have htl : (l.take (l.length - 4)).length = l.length - 4 := by rw [List.length_take]; omega
  have hsp : l.take (l.length - 4) ++ l.drop (l.length - 4) = l := List.take_append_drop _ _
  by_cases hs : l.drop (l.length - 4) = le4 (crc (l.take (l.length - 4)))
  ·have e : opn l = some (l.take (l.length - 4)) := by unfold opn; rw [if_neg h4, if_pos hs]
   have hse : B9 (l.take (l.length - 4)) = l := by unfold B9; rw [← hs]; exact hsp
   refine (CW.open_yes v (l.take (l.length - 4)) w0 w F0 L G I (by rw [hse, htl, show l.length - 4 + 4 = l.length by omega]; exact h) (by omega)).mono ?_; rintro e w' ⟨u, rfl, I⟩; rw [e]; exact ⟨u, true, O, by simp, I⟩
  ·have e : opn l = none := by unfold opn; rw [if_neg h4, if_neg hs]
   obtain ⟨s0, s1, s2, s3, h5⟩ := Bbx hd; rw [h5] at hs hsp; refine (CW.open_no v (l.take (l.length - 4)) s0 s1 s2 s3 w0 w F0 L G I (by rw [hsp, htl, show l.length - 4 + 4 = l.length by omega]; exact h) (by omega) hs).mono ?_; rintro e w' ⟨rfl, I⟩; rw [e]; exact ⟨_, false, O, by simp, I.nilRow 5 1⟩
def M.cells (m : M) (A : Option Addr) (cap : Nat) : List Value := [.int .i64 m.kind, .int .i64 m.from_, .int .i64 m.slo, .int .i64 m.shi, .int .i64 m.held, .int .i64 m.hops, .bool m.good, .bool m.ref, .int .i64 m.elo, .int .i64 m.ehi, .int .i64 m.pulse, .int .i64 m.time, .int .i64 m.num, .slice A m.tab.length cap]
def Au4 (l : List UInt8) (w0 : World) (F0 : List Nat) (L G : List Res) (e : Ending) (w' : World) : Prop :=
  ∃ A cap, e = .returned (.tuple #[.agg ((Cu l).1.cells A cap).toArray, .int .i64 (Cu l).2]) ∧ St w0 F0 w' (Af (.slice A (Cu l).1.tab.length cap) 114 2 (Cu l).1.tab.length (lcs (Cu l).1.tab) :: L) G
theorem Jg {l : List UInt8} {er : Int} {w0 w' : World} {F0 : List Nat} {L G : List Res} (hd : Cu l = (M0, er)) (I : St w0 F0 w' L G) : Au4 l w0 F0 L G (.returned (.tuple #[.agg zms.toArray, .int .i64 er])) w' := by
 refine ⟨none, 0, by rw [hd]; rfl, ?_⟩; rw [hd]; exact I.nilRow 114 2
theorem An7 {l : List UInt8} (h : 4096 < l.length) : Cu l = (M0, 3) := by unfold Cu; rw [if_pos h]
theorem Awz {l : List UInt8} (h : ¬ 4096 < l.length) (h2 : opn l = none) : Cu l = (M0, 5) := by unfold Cu; rw [if_neg h, h2]
theorem Y.byteInt {P : Program} {S : World → Prop} {ρ : Env} {ty t t' : TypeId} {x : Operand} {c : UInt8} (ht : P.underlying t' = some (.int .i64)) (hs : P.underlying t = some (.int .u8)) (hx : ev ρ x = .int .u8 (c.toNat : Int)) : Y P S ρ (.convert t t' x) ty (.int .i64 (c.toNat : Int)) := by
 have h := UInt8.toNat_lt c; have e : IntKind.i64.wrap (c.toNat : Int) = (c.toNat : Int) := IntWalk.i64_in _ (by omega); have := Y.conv (S := S) (ty := ty) ht hs hx; rwa [e] at this
theorem Y.and1 {P : Program} {S : World → Prop} {ρ : Env} {ty t t' : TypeId} {x : Operand} {c : UInt8} (hx : ev ρ x = .int .u8 (c.toNat : Int)) : Y P S ρ (.binOp .and t x (.const (.int .u8 1)) t') ty (.int .u8 (IntKind.u8.wrap (BitVec.ofInt IntKind.u8.bits (c.toNat : Int) &&& BitVec.ofInt IntKind.u8.bits 1).toNat)) := Y.and hx rfl
theorem Y.and2 {P : Program} {S : World → Prop} {ρ : Env} {ty t t' : TypeId} {x : Operand} {c : UInt8} (hx : ev ρ x = .int .u8 (c.toNat : Int)) : Y P S ρ (.binOp .and t x (.const (.int .u8 2)) t') ty (.int .u8 (IntKind.u8.wrap (BitVec.ofInt IntKind.u8.bits (c.toNat : Int) &&& BitVec.ofInt IntKind.u8.bits 2).toNat)) := Y.and hx rfl
theorem A94 (n : Nat) (h : n ≤ 3) : decide (IntKind.u8.wrap (BitVec.ofInt IntKind.u8.bits (n : Int) &&& BitVec.ofInt IntKind.u8.bits 1).toNat = 1) = decide (n % 2 = 1) := by
 rcases (show n = 0 ∨ n = 1 ∨ n = 2 ∨ n = 3 by omega) with rfl | rfl | rfl | rfl <;> decide
theorem A95 (n : Nat) (h : n ≤ 3) : decide (IntKind.u8.wrap (BitVec.ofInt IntKind.u8.bits (n : Int) &&& BitVec.ofInt IntKind.u8.bits 2).toNat = 2) = decide (n / 2 % 2 = 1) := by
 rcases (show n = 0 ∨ n = 1 ∨ n = 2 ∨ n = 3 by omega) with rfl | rfl | rfl | rfl <;> decide
theorem Y.bit1 {P : Program} {S : World → Prop} {ρ : Env} {ty t t' : TypeId} {x : Operand} {n : Nat} (h : n ≤ 3) (hx : ev ρ x = .int .u8 (IntKind.u8.wrap (BitVec.ofInt IntKind.u8.bits (n : Int) &&& BitVec.ofInt IntKind.u8.bits 1).toNat)) : Y P S ρ (.binOp .eql t x (.const (.int .u8 1)) t') ty (.bool (decide (n % 2 = 1))) := by
 rw [← A94 n h]; exact Y.eql hx rfl
theorem Y.bit2 {P : Program} {S : World → Prop} {ρ : Env} {ty t t' : TypeId} {x : Operand} {n : Nat} (h : n ≤ 3) (hx : ev ρ x = .int .u8 (IntKind.u8.wrap (BitVec.ofInt IntKind.u8.bits (n : Int) &&& BitVec.ofInt IntKind.u8.bits 2).toNat)) : Y P S ρ (.binOp .eql t x (.const (.int .u8 2)) t') ty (.bool (decide (n / 2 % 2 = 1))) := by
 rw [← A95 n h]; exact Y.eql hx rfl
theorem Nz {l p : List UInt8} (h : ¬ 4096 < l.length) (h2 : opn l = some p) : Cu l = if F2 p then (if (rdM p).Ok then (rdM p, 0) else (M0, 4)) else (M0, 4) := by unfold Cu; rw [if_neg h, h2]
theorem Ny {l p : List UInt8} (h : ¬ 4096 < l.length) (h2 : opn l = some p) (h3 : ¬ F2 p) : Cu l = (M0, 4) := by rw [Nz h h2, if_neg h3]
theorem Awx {l p : List UInt8} (h : ¬ 4096 < l.length) (h2 : opn l = some p) (h3 : ¬ (rdM p).Ok) : Cu l = (M0, 4) := by
 rw [Nz h h2]
 by_cases hf : F2 p
 ·rw [if_pos hf, if_neg h3]
 ·rw [if_neg hf]
theorem Ah7 {l p : List UInt8} (h : ¬ 4096 < l.length) (h2 : opn l = some p) (h3 : F2 p) (h4 : (rdM p).Ok) : Cu l = (rdM p, 0) := by rw [Nz h h2, if_pos h3, if_pos h4]
def rdK (p : List UInt8) (k : Nat) : M := { rdM p with tab := Iw p k }
theorem fk9 (q : List UInt8) : fk [.int .i64 ((q.getD 0 0).toNat : Int), .int .i64 ((q.getD 1 0).toNat : Int), .int .i64 0, .int .i64 0, .int .i64 0, .int .i64 0, .bool (decide ((q.getD 2 0).toNat % 2 = 1)), .bool (decide ((q.getD 2 0).toNat / 2 % 2 = 1)), .int .i64 0, .int .i64 0, .int .i64 0, .int .i64 0, .int .i64 0, .slice none 0 0] [2, 3, 4, 5, 8, 9, 10, 11, 12] (q.drop 4) 9 = (rdK q 0).cells none 0 := by
 simp [fk, M.cells, rdK, rdM, Ew, List.drop_drop, gb, Iw]
theorem A3q (l : List UInt8) : Bz (rd8 l) := by
 unfold rd8 Bz; have := IntKind.wrap_i64 (rdn l : Int); omega
theorem A3x (q : List UInt8) (k : Nat) : ∀ x ∈ Iw q k, Bz x.1 ∧ Bz x.2 := by
 intro x hx; simp only [Iw, List.mem_map] at hx; obtain ⟨i, _, rfl⟩ := hx; exact ⟨A3q _, A3q _⟩
theorem Ax0 {l q : List UInt8} {A : Option Addr} {c : Nat} {w0 w' : World} {F0 : List Nat} {L G : List Res} (hd : Cu l = (rdM q, 0)) (I : St w0 F0 w' (Af (.slice A (rdM q).tab.length c) 114 2 (rdM q).tab.length (lcs (rdM q).tab) :: L) G) : Au4 l w0 F0 L G (.returned (.tuple #[.agg ((rdM q).cells A c).toArray, .int .i64 0])) w' := by
 refine ⟨A, c, by rw [hd], ?_⟩; rw [hd]; exact I
def Aa8 (q : List UInt8) (A : Option Addr) (k c : Nat) : List Value := [.int .i64 (rdM q).kind, .int .i64 (rdM q).from_, .int .i64 (rdM q).slo, .int .i64 (rdM q).shi, .int .i64 (rdM q).held, .int .i64 (rdM q).hops, .bool (rdM q).good, .bool (rdM q).ref, .int .i64 (rdM q).elo, .int .i64 (rdM q).ehi, .int .i64 (rdM q).pulse, .int .i64 (rdM q).time, .int .i64 (rdM q).num, .slice A k c]
theorem Nk (q : List UInt8) (k : Nat) : (Iw q k).length = k := by simp [Iw]
theorem Ae6 (q : List UInt8) (k : Nat) : Iw q (k + 1) = Iw q k ++ [(Ew q (9 + 2 * k), Ew q (10 + 2 * k))] := by simp [Iw, List.range_succ]
theorem Az1 : (Tryz.prog.info? 114).map (fun i => (i.zero, i.size, i.bytes)) = some (some (.agg #[.int .i64 0, .int .i64 0]), 2, 16) := by kernel_rfl
theorem fk2 (q : List UInt8) (k : Nat) : fk [.int .i64 0, .int .i64 0] [0, 1] (q.drop (76 + 16 * k)) 2 = lcs [(Ew q (9 + 2 * k), Ew q (10 + 2 * k))] := by
 simp [fk, Ew, List.drop_drop, lcs]; constructor <;> congr 3 <;> omega
theorem S7 {S ρ ty} {parts : Array (Nat × Operand)} {x0 x1 : Int} {x5 : Bool} {x6 : Bool} (hp : (parts.toList.map fun x => (x.1, ev ρ x.2)) = [(0, .int .i64 x0), (1, .int .i64 x1), (5, Value.bool x5), (6, Value.bool x6)]) : Y Tryz.prog S ρ (.build 103 parts) ty (.agg #[.int .i64 x0, .int .i64 x1, .int .i64 0, .int .i64 0, .int .i64 0, .int .i64 0, Value.bool x5, Value.bool x6, .int .i64 0, .int .i64 0, .int .i64 0, .int .i64 0, .int .i64 0, Value.slice none 0 0]) :=
 Y.build hp fun w => by simp [Instr.build, go_sem]
theorem Bi9 {S ρ ty} {parts : Array (Nat × Operand)}  (hp : (parts.toList.map fun x => (x.1, ev ρ x.2)) = []) : Y Tryz.prog S ρ (.build 114 parts) ty (.agg #[.int .i64 0, .int .i64 0]) :=
 Y.build hp fun w => by simp [Instr.build, go_sem]
theorem A8x {S ρ ty} {parts : Array (Nat × Operand)} {x0a : Option Addr} {x0l x0c : Nat} (hp : (parts.toList.map fun x => (x.1, ev ρ x.2)) = [(0, Value.slice x0a x0l x0c)]) : Y Tryz.prog S ρ (.build 177 parts) ty (.agg #[Value.slice x0a x0l x0c]) :=
 Y.build hp fun w => by simp [Instr.build, go_sem]
theorem Ta : CF 82 := fun _ _ => by simp [go_sem]
theorem Bw0 : CF 83 := fun _ _ => by simp [go_sem]
theorem Bs4 : CF 84 := fun _ _ => by simp [go_sem]
set_option maxHeartbeats 4000000 in
theorem Z1 (l : List UInt8) (w0 w : World) (F0 : List Nat) (L G : List Res) (I : St w0 F0 w L G) (hl : l.length ≤ 1000000) :
  Calls Tryz.prog 59 #[.string (str l)] w (Au4 l w0 F0 L G) := by
 refine W.funcD (args := [_]) func59 O ntmps59 O O<|Wr O<|Ow O (X.allocA I zeroValue103<|?_); clear I; intro p2 w2 I; refine Ow O (X.alloc1 I zeroValue44 O ?_); clear I; intro p3 w3 I; refine Od O<|⟨O, DF.go (m := 4) (cs := [.pointer _, .pointer _]) O O O O O O O<|?_⟩; replace I := I.swap; refine Wh O<|I.y O (Y.moveT O)<|I.y O (Y.lenT underlying9 O)<|I.X O O O (fun b11 hb11 => ?_); cases b11
 ·replace hb11 := dF hb11; refine Ops.xp O O (XP.call Ta O ?_); refine Ab (Oi _ _) O ?_; rintro e w' ⟨rfl, rfl⟩; refine ⟨_, O, ?_⟩; exact Hi 3 rfl I rfl rfl (fun w' I => Jg (An7 (by rw [Gx] at hb11; omega)) I)
 ·replace hb11 := dT hb11; refine Oc O Ta O ?_; refine Ab (Wg _ _) O ?_; rintro e w' ⟨rfl, rfl⟩; refine ⟨_, O, ?_⟩; refine Ds O O<|I.y O (Y.moveT O)<|Ow O (X.bytes I underlying9 underlying172 underlying5 O<|?_); clear I; intro p15 m15 w15 I; refine Oc O Bw0 O ?_; refine Ab (A20 _ l _ _ _ _ _ I (Rds.front 0 O (by omega) (Xh l m15)) hl) O ?_; clear I; rintro e w4 ⟨u, b16, rfl, hb16, I⟩; generalize hq : (opn l).getD [] = q at I; obtain ⟨Au, cu, rfl, hcu⟩ := C5 (I.res _ (List.Mem.head _)); refine ⟨_, O, ?_⟩; replace I := I.swap.drop.toFact; have hrq : ∀ {w : World} {L' : List Res}, St w0 F0 w L' (Af (.slice Au q.length cu) 5 1 q.length (bvs q) :: G) → Sl w (.slice Au q.length cu) q.length (bvs q) := fun h => (Rds.rowG 0 rfl).sl h; refine I.y O (Y.moveU O)<|I.e O O O<|I.e O O O<|I.y O (Y.assignS O)<|I.g O O<|Ds O O<|I.b O O<|?_; cases b16
  ·replace hb16 := dF hb16; refine Ops.xp O O (XP.call Ta O ?_); refine Ab (Oi _ _) O ?_; rintro e w' ⟨rfl, rfl⟩; refine ⟨_, O, ?_⟩; exact Hi 5 rfl I rfl rfl (fun w' I => Jg (Awz (by rw [Gx] at hb11; omega) (by simpa using hb16)) I.forget)
  ·replace hb16 := dT hb16; refine Oc O Ta O ?_; refine Ab (Wg _ _) O ?_; rintro e w' ⟨rfl, rfl⟩; refine ⟨_, O, ?_⟩; refine Od O<|Wq O<|?_; have hll : ¬ 4096 < l.length := by rw [Gx] at hb11; omega
   have hp : opn l = some q := by
    rw [← hq]; cases e : opn l with
    | none => exact absurd e hb16
    | some p => rfl
   have hb2 := UInt8.toNat_lt (q.getD 2 0); have hb3 := UInt8.toNat_lt (q.getD 3 0); refine Wr O<|I.s O O<|I.y O (Y.lenS underlying172 O)<|I.W O O O (fun b23 hb23 => I.b O O<|?_); cases b23
   ·replace hb23 := dF hb23; refine On O<|On O<|On O<|On O<|On O<|On O<|On O<|On O<|On O<|I.k O O O<|I.b O O<|On O<|On O<|On O<|On O<|I.k O O O<|Ops.xp O O (XP.call Ta O<|?_); refine Ab (Oi _ _) O ?_; rintro e w' ⟨rfl, rfl⟩; refine ⟨_, O, ?_⟩; exact Hi 4 rfl I rfl rfl (fun w' I => Jg (Ny hll hp (by unfold F2 gb; omega)) I.forget)
   ·replace hb23 := dT hb23; refine I.s rfl rfl<|I.y rfl (Y.lenS underlying172 rfl)<|I.s rfl rfl<|I.y rfl (Y.indexAddr underlying172 sizeOf5 rfl rfl ((hrq I).ne (by rw [Ao]; omega)) (by omega))<|?_; refine I.y O (Y.loadSl isAgg5 O (Rds.rowG 0 O) (H7 (k := 3) (by omega)))<|I.y O (Y.byteInt underlying3 underlying5 O)<|I.y O (Y.mulI O O (by omega))<|I.j O O O (by omega)<|I.Y O O O (fun b33 hb33 => I.k O O O<|I.b O O<|?_); cases b33
    ·replace hb33 := dF hb33; refine On O<|On O<|On O<|On O<|I.k O O O<|Ops.xp O O (XP.call Ta O<|?_); refine Ab (Oi _ _) O ?_; rintro e w' ⟨rfl, rfl⟩; refine ⟨_, O, ?_⟩; exact Hi 4 rfl I rfl rfl (fun w' I => Jg (Ny hll hp (by unfold F2 gb; omega)) I.forget)
    ·replace hb33 := dT hb33; refine I.s rfl rfl<|I.y rfl (Y.indexAddr underlying172 sizeOf5 rfl rfl ((hrq I).ne (by rw [Ao]; omega)) (by omega))<|?_; refine I.y O (Y.loadSl isAgg5 O (Rds.rowG 0 O) (H7 (k := 2) (by omega)))<|I.X O O O (fun b39 hb39 => I.k O O O<|?_); cases b39
     ·replace hb39 := dF hb39; refine Ops.xp O O (XP.call Ta O ?_); refine Ab (Oi _ _) O ?_; rintro e w' ⟨rfl, rfl⟩; refine ⟨_, O, ?_⟩; exact Hi 4 rfl I rfl rfl (fun w' I => Jg (Ny hll hp (by unfold F2 gb; omega)) I.forget)
     ·replace hb39 := dT hb39; refine Oc O Ta O ?_; refine Ab (Wg _ _) O ?_; rintro e w' ⟨rfl, rfl⟩; refine ⟨_, O, ?_⟩; refine Od O<|Wq O<|?_; have hq2 : (q.getD 2 0).toNat ≤ 3 := by omega
      have hform : F2 q := by unfold F2 gb; omega
      refine I.dv [19] (T0 [0,1,2,3,4,5,6,7,8,9,10,11,12,13,14,15,16,17,18] (.op 19 1 .nil)) O (by kernel_rfl) O (by kernel_rfl) fun _ I => ?_; refine I.zs rfl rfl<|I.z rfl (Y.indexAddr underlying172 sizeOf5 rfl rfl ((hrq I).ne (by rw [Ao]; omega)) (by omega))<|?_; refine I.z rfl (Y.loadSl isAgg5 rfl (Rds.rowG 0 rfl) (H7 (k := 0) (by omega)))<|I.z rfl (Y.byteInt underlying3 underlying5 rfl)<|I.zs rfl rfl<|I.z rfl (Y.indexAddr underlying172 sizeOf5 rfl rfl ((hrq I).ne (by rw [Ao]; omega)) (by omega))<|?_; refine I.z rfl (Y.loadSl isAgg5 rfl (Rds.rowG 0 rfl) (H7 (k := 1) (by omega)))<|I.z rfl (Y.byteInt underlying3 underlying5 rfl)<|I.zs rfl rfl<|I.z rfl (Y.indexAddr underlying172 sizeOf5 rfl rfl ((hrq I).ne (by rw [Ao]; omega)) (by omega))<|?_; refine I.z rfl (Y.loadSl isAgg5 rfl (Rds.rowG 0 rfl) (H7 (k := 2) (by omega)))<|I.z rfl (Y.and1 rfl)<|I.z rfl (Y.bit1 hq2 rfl)<|I.zs rfl rfl<|I.z rfl (Y.indexAddr underlying172 sizeOf5 rfl rfl ((hrq I).ne (by rw [Ao]; omega)) (by omega))<|?_; refine I.z O (Y.loadSl isAgg5 O (Rds.rowG 0 O) (H7 (k := 2) (by omega)))<|I.z O (Y.and2 O)<|I.z O (Y.bit2 hq2 O)<|I.z O (S7 O)<|Drw.z O O O O (X.storeS I 0 sizeOf103 O O (vs := [.int .i64 ((q.getD 0 0).toNat : Int), .int .i64 ((q.getD 1 0).toNat : Int), .int .i64 0, .int .i64 0, .int .i64 0, .int .i64 0, .bool (decide ((q.getD 2 0).toNat % 2 = 1)), .bool (decide ((q.getD 2 0).toNat / 2 % 2 = 1)), .int .i64 0, .int .i64 0, .int .i64 0, .int .i64 0, .int .i64 0, .slice none 0 0]) O O O (lZ O) O O<|?_); clear I; intro w6 I; replace I : St w0 F0 _ (Aa p2 [.int .i64 ((q.getD 0 0).toNat : Int), .int .i64 ((q.getD 1 0).toNat : Int), .int .i64 0, .int .i64 0, .int .i64 0, .int .i64 0, .bool (decide ((q.getD 2 0).toNat % 2 = 1)), .bool (decide ((q.getD 2 0).toNat / 2 % 2 = 1)), .int .i64 0, .int .i64 0, .int .i64 0, .int .i64 0, .int .i64 0, .slice none 0 0] 103 :: Aa p3 [.int .i64 0] 44 :: L) (Af (.slice Au q.length cu) 5 1 q.length (bvs q) :: G) := I; refine Dd<|Wh O<|I.s O O<|I.y O (Y.sliceLo underlying172 sizeOf5 O O (m := 4) O (by omega))<|I.y O (A8x O)<|Ow O (X.boxA I O<|?_); clear I; intro p64 w64 I; refine I.y O (Y.assignP O)<|Ds O O<|I.p O O<|I.f D0 O O<|I.f Fm O O<|I.f D0 O O<|I.f Fb O O<|I.f Ib O O<|I.f Hb O O<|I.f Gb O O<|I.f Fm O O<|I.f Gb O O<|I.f Fb O O<|I.f P2 O O<|I.f Hc O O<|I.f E1 O O<|I.f Hc O O<|I.f I6 O O<|Ow O (X.lits I underlying201 sizeOf179 zeroValue179 (by rfl) (by rfl) (by rfl) [.pointer _, .pointer _, .pointer _, .pointer _, .pointer _, .pointer _, .pointer _, .pointer _, .pointer _] (by rfl) (by rfl)<|?_); clear I; intro p81 w81 I; have hl4 : (q.drop 4).length = q.length - 4 := List.length_drop ..; rw [← hl4] at I; have hup := I.up3.up3
      have hrs : Rds [] (Af (.slice Au q.length cu) 5 1 q.length (bvs q) :: G) (.slice (Sf Au cu 4 1) (q.drop 4).length (cu - 4)) (q.drop 4).length (bvs (q.drop 4)) := by
       have h := (Rds.rowG 0 rfl : Rds [] (Af (.slice Au q.length cu) 5 1 q.length (bvs q) :: G) (.slice Au q.length cu) q.length (bvs q)).dropN (size := 1) (k := 4) (by rw [Ao, Nat.mul_one]) (by omega); rw [hl4]; simpa [bvs, List.map_drop] using h
      refine Ow rfl (X.call Bs4 rfl<|Ab (Um p64 p2 [2, 3, 4, 5, 8, 9, 10, 11, 12] _ _ (q.drop 4) _ _ _ _ _ _ _ _ _ hup hrs (Rds.ofCells 0 rfl 9 9) (by simp; omega) (by omega) (by simp)) rfl<|?_); clear I hup hrs; rintro e w8 ⟨rfl, A8, c8, hs8, I⟩; refine ⟨_, O, ?_⟩; refine Od O<|Wq O<|Wq O<|?_; replace I := I.up3.drop; rw [show ([2, 3, 4, 5, 8, 9, 10, 11, 12] : List Nat).length = 9 from rfl] at I hs8; rw [fk9] at I; replace I := I.nilRow 114 2; refine Wr rfl<|I.s rfl rfl<|I.y rfl (Y.indexAddr underlying172 sizeOf5 rfl rfl ((hrq I).ne (by rw [Ao]; omega)) (by omega))<|?_; refine I.y O (Y.loadSl isAgg5 O (Rds.rowG 0 O) (H7 (k := 3) (by omega)))<|I.y O (Y.byteInt underlying3 underlying5 O)<|I.u O O<|Od O<|Wb O<|?_; refine W.loop (γ := Nat) [(2, .pointer _), (3, .pointer _), (6, .pointer _), (86, .int _ _)] (fun k => [(87, .int .i64 (k : Int))]) (fun k w => k ≤ (q.getD 3 0).toNat ∧ ∃ A c Ar cr, Rds [] (Af (.slice Au q.length cu) 5 1 q.length (bvs q) :: G) (.slice Ar (q.drop (76 + 16 * k)).length cr) (q.drop (76 + 16 * k)).length (bvs (q.drop (76 + 16 * k))) ∧ St w0 F0 w (Af (.slice A k c) 114 2 k (lcs (Iw q k)) :: Aa p64 [.slice Ar (q.drop (76 + 16 * k)).length cr] 177 :: Aa p2 (Aa8 q A k c) 103 :: Aa p3 [.int .i64 0] 44 :: L) (Af (.slice Au q.length cu) 5 1 q.length (bvs q) :: G)) (fun k => (q.getD 3 0).toNat - k) (0) O ⟨O, O, O, O, trivial⟩ ?_ ?_ ?_
      ·exact ⟨O, trivial⟩
      ·rw [List.drop_drop] at hs8 I; exact ⟨by omega, none, 0, A8, c8, hs8, I⟩
      ·clear I hs8; rintro k j w9 ⟨hk, A, c, Ar, cr, hs9, I⟩; refine Wh O<|I.v O O O (fun b88 hb88 => Od O<|Wq O<|?_); cases b88
       ·replace hb88 := dF hb88; refine Wu O O<|W.exit O<|Wq O<|?_; have hkn : k = (q.getD 3 0).toNat := by omega
        have et : (rdM q).tab = Iw q k := by rw [hkn]; rfl
        have el : (rdM q).tab.length = k := by rw [et, Nk]
        have e1 : Aa8 q A k c = (rdM q).cells A c := by unfold Aa8 M.cells; rw [el]
        rw [e1, ← et] at I; have e2 : Af (.slice A k c) 114 2 k (lcs (rdM q).tab) = Af (.slice A (rdM q).tab.length c) 114 2 (rdM q).tab.length (lcs (rdM q).tab) := by rw [el]
        rw [e2] at I; refine Wr O<|I.y O (Y.loadA 2 isAgg103 sizeOf103 O O O O)<|Oc O Bs5 O ?_; refine Ab (Xz _ _ _ _ _ _ _ _ _ _ _ _ _ (rdM q).tab _ _ _ _ _ _ _ I (Rds.rowL 0 rfl) (by omega) (by rw [et]; exact A3x _ _)) O ?_; clear I; rintro e w15 ⟨b103, rfl, hb103, I⟩; refine ⟨_, O, ?_⟩; cases b103
        ·replace hb103 := dF hb103; refine Ops.xp O O (XP.call Ta O ?_); refine Ab (Oi _ _) O ?_; rintro e w' ⟨rfl, rfl⟩; refine ⟨_, O, ?_⟩; exact Hi 4 O I.drop.drop O O (fun w' I => Jg (Awx hll hp hb103) I.forget)
        ·replace hb103 := dT hb103; refine Oc O Ta O ?_; refine Ab (Wg _ _) O ?_; rintro e w' ⟨rfl, rfl⟩; refine ⟨_, O, ?_⟩; refine Ds O O<|I.y O (Y.loadA 2 isAgg103 sizeOf103 O O O O)<|Ow O (X.storeS I 2 sizeOf103 O O (vs := (rdM q).cells A c) O O O (lZ O) (cs' := (rdM q).cells A c) O O<|?_); clear I; intro w16 I; refine Ow O (X.storeV I 3 (.int _ _) sizeOf44 O O O O (lZ O) O O ?_); clear I; intro w162 I; refine Od O<|We O<|?_; exact Ba8 O I.swap.drop.up3.up3 O O (fun w' I => Ax0 (Ah7 hll hp hform hb103) I.forget)
       ·replace hb88 := dT hb88; refine Wt O O<|Wk O<|Wq O<|Wb O<|Wh O<|I.y O (Bi9 O)<|Ow O (X.allocA I zeroValue114<|?_); clear I; intro p7 w7 I; refine Ow O (X.storeS I 0 sizeOf114 O O O O O (lZ O) O O ?_); clear I; intro w11_2 I
        try simp only [List.set_cons_zero, List.set_cons_succ, Nat.zero_add, Nat.reduceAdd, splice, List.take, List.drop, List.append_eq, List.nil_append, List.cons_append, List.length_cons, List.length_nil] at I
        refine Ds O O<|I.p O O<|I.f Ic O O<|I.f Ee O O<|Ow O (X.lits I underlying201 sizeOf179 zeroValue179 (by rfl) (by rfl) (by rfl) [.pointer _, .pointer _] (by rfl) (by rfl)<|?_); clear I; intro p93 w93 I; have hup := I.up4.up3.swap; refine Ow rfl (X.call Bs4 rfl<|Ab (Um p64 p7 [0, 1] _ _ (q.drop (76 + 16 * k)) _ _ _ _ _ _ _ _ _ hup hs9 (Rds.ofCells 0 rfl 2 2) (by simp; omega) (by simp; omega) (by simp)) rfl<|?_); clear I hup; rintro e w12 ⟨rfl, A12, c12, hs12, I⟩; refine ⟨_, O, ?_⟩; replace I := I.up3.drop; rw [show ([0, 1] : List Nat).length = 2 from rfl] at I hs12; rw [fk2] at I; refine Od O<|Wr O<|I.f Fl O O<|I.y O (Y.load 3 isAgg41 O O O)<|I.y O (Y.loadA 1 isAgg114 sizeOf114 O O O O)<|Ow O (X.lit1 I underlying41 sizeOf114 zeroValue114 (by rfl) (vs := lcs [(Ew q (9 + 2 * k), Ew q (10 + 2 * k))]) O (by rfl)<|?_); clear I; intro p98 w98 I; refine Ow rfl (X.append I 3 underlying41 Az1 rfl rfl rfl rfl rfl (Rds.ofCells 0 rfl 1 1) rfl (by simp [lcs, Value.oneCell']) (by unfold maxLen; omega) (by omega) ?_); clear I; intro v99 w99 I; obtain ⟨A99, c99, rfl, -⟩ := C5 (I.res _ (List.Mem.tail _ (List.Mem.tail _ (List.Mem.tail _ (List.Mem.head _))))); refine I.f Fl O O<|Ow O (X.storeV I 4 (.slice _ _ _) sizeOf41 O O O O (lZ O) O O<|?_); clear I; intro w13 I; refine Od O<|Wr O<|I.j O O O (by omega)<|I.u O O<|Od O<|?_; have hd2 : (q.drop (76 + 16 * k)).drop (8 * 2) = q.drop (76 + 16 * (k + 1)) := by rw [List.drop_drop]; congr 1
        rw [hd2] at I hs12; refine ⟨k + 1, ⟨O, trivial⟩, ⟨O, O, O, O, trivial⟩, ⟨by omega, A99, c99, A12, c12, hs12, ?_⟩, by omega⟩; rw [Ae6, Ad4]; exact I.drop.swap.drop.swap
end
end Go.Proofs.YtaanjifekgfemaaGreat.W
namespace Go.Proofs.YtaanjifekgfemaaGreat.Cl
section
open Tryz Go.RowKit YtaanjifekgfemaaGreat.K YtaanjifekgfemaaGreat.W YtaanjifekgfemaaGreat.LN
structure Rd where
  gate : Int
  is : Bool
  reading : Int
  given : Bool
  tab : List (Int × Int)
  A : Option Addr
  cap : Nat
def rdC (r : Rd) : List Value := [.int .i64 r.gate, .bool r.is, .int .i64 r.reading, .bool r.given, .slice r.A r.tab.length r.cap]
theorem Ak6 (r : Rd) : (rdC r).length = 5 := rfl
structure Ag where
  from_ : Int
  to : Int
  ticks : Int
def agC (a : Ag) : List Value := [.int .i64 a.from_, .int .i64 a.to, .int .i64 a.ticks]
theorem Ag9 (a : Ag) : (agC a).length = 3 := rfl
structure Li where
  from_ : Int
  to : Int
  text : ByteArray
def liC (a : Li) : List Value := [.int .i64 a.from_, .int .i64 a.to, .string a.text]
theorem Lh (a : Li) : (liC a).length = 3 := rfl
abbrev Sla := Option Addr × Nat
structure Stp where
  ticks : List (Int × Int)
  reads : List Rd
  ages : List Ag
  lost : List (Int × Int)
  lies : List Li
  off : List Int
  cut : List (Int × Int)
  join : List (Int × Int)
  a0 : Sla
  a1 : Sla
  a2 : Sla
  a3 : Sla
  a4 : Sla
  a5 : Sla
  a6 : Sla
  a7 : Sla
def Kc (s : Stp) : List Value := [.slice s.a0.1 s.ticks.length s.a0.2, .slice s.a1.1 s.reads.length s.a1.2, .slice s.a2.1 s.ages.length s.a2.2, .slice s.a3.1 s.lost.length s.a3.2, .slice s.a4.1 s.lies.length s.a4.2, .slice s.a5.1 s.off.length s.a5.2, .slice s.a6.1 s.cut.length s.a6.2, .slice s.a7.1 s.join.length s.a7.2]
structure Stp.Ok (G : List Res) (s : Stp) : Prop where
  ticks : Rds [] G (.slice s.a0.1 s.ticks.length s.a0.2) s.ticks.length (Ae Aq s.ticks)
  reads : Rds [] G (.slice s.a1.1 s.reads.length s.a1.2) s.reads.length (Ae rdC s.reads)
  ages : Rds [] G (.slice s.a2.1 s.ages.length s.a2.2) s.ages.length (Ae agC s.ages)
  lost : Rds [] G (.slice s.a3.1 s.lost.length s.a3.2) s.lost.length (Ae Aq s.lost)
  lies : Rds [] G (.slice s.a4.1 s.lies.length s.a4.2) s.lies.length (Ae liC s.lies)
  off : Rds [] G (.slice s.a5.1 s.off.length s.a5.2) s.off.length (ivs s.off)
  cut : Rds [] G (.slice s.a6.1 s.cut.length s.a6.2) s.cut.length (Ae Aq s.cut)
  join : Rds [] G (.slice s.a7.1 s.join.length s.a7.2) s.join.length (Ae Aq s.join)
  lens : s.ticks.length ≤ 1000000 ∧ s.reads.length ≤ 1000000 ∧ s.ages.length ≤ 1000000 ∧ s.lost.length ≤ 1000000 ∧ s.lies.length ≤ 1000000 ∧ s.off.length ≤ 1000000 ∧ s.cut.length ≤ 1000000 ∧ s.join.length ≤ 1000000
  tabs : ∀ r ∈ s.reads, Bn r.tab ∧ Rds [] G (.slice r.A r.tab.length r.cap) r.tab.length (lcs r.tab)
theorem Stp.Ok.mono {G G' : List Res} {s : Stp} (h : s.Ok G) (hG : ∀ r ∈ G, r ∈ G') : s.Ok G' :=
 ⟨h.ticks.moreG hG, h.reads.moreG hG, h.ages.moreG hG, h.lost.moreG hG, h.lies.moreG hG, h.off.moreG hG, h.cut.moreG hG, h.join.moreG hG, h.lens, fun r hr => ⟨(h.tabs r hr).1, (h.tabs r hr).2.moreG hG⟩⟩
def Fe (p : Par) (who : Int) (l : List (Int × Int)) : Int := l.foldl (fun n t => if t.1 = who then t.2 else n) p.Beat
def rs1 (who : Int) (i : Inp) (r : Rd) : Inp := if r.gate = who ∧ r.is = true then { i with ref := true, reading := r.reading } else i
def rs2 (who : Int) (i : Inp) (r : Rd) : Inp := if r.gate = who ∧ r.given = true then { i with given := true, tab := r.tab, TA := r.A, tcap := r.cap } else i
def Cd (who : Int) (i : Inp) (r : Rd) : Inp := rs2 who (rs1 who i r) r
def Tg (n : Int) : Inp := ⟨n, [], none, 0, false, 0, false, [], none, 0⟩
def Dx (p : Par) (who : Int) (ticks : List (Int × Int)) (l : List Rd) : Inp := l.foldl (Cd who) (Tg (Fe p who ticks))
def Az (p : Par) (who : Int) (l : List Ag) (f : Nat) : Int := l.foldl (fun n a => if a.from_ = (f : Int) ∧ a.to = who then a.ticks else n) (sub p.Beat p.Delay)
def Xm (f : Nat) (age : Int) (x : It) : Option (M × Int) := if (Cu x.1.data.toList).2 = 0 ∧ (Cu x.1.data.toList).1.from_ = (f : Int) then some ((Cu x.1.data.toList).1, age) else none
def Eh (f : Nat) (age : Int) (q : List It) : List (M × Int) := q.filterMap (Xm f age)
def Bj (qs : Qs) (age : Nat → Int) (k : Nat) : List (M × Int) := (List.range k).flatMap fun f => Eh f (age f) (qs.getD f [])
def ma (h : Hd) : M × Int := (h.m, h.age)
structure InpOf (p : Par) (s : Stp) (who : Int) (qs : Qs) (i : Inp) : Prop where
  ticks : i.ticks = Fe p who s.ticks
  ref : i.ref = (Dx p who s.ticks s.reads).ref
  reading : i.reading = (Dx p who s.ticks s.reads).reading
  given : i.given = (Dx p who s.ticks s.reads).given
  tab : i.tab = (Dx p who s.ticks s.reads).tab
  heard : i.heard.map ma = Bj qs (Az p who s.ages) 48
theorem Pi (p : Par) (who : Int) (l : List (Int × Int)) (k : Nat) (h : k < l.length) : Fe p who (l.take (k + 1)) = if l[k].1 = who then l[k].2 else Fe p who (l.take k) := by
 unfold Fe; rw [List.take_succ_eq_append_getElem h, List.foldl_append]; rfl
theorem Oa (p : Par) (who : Int) (ts : List (Int × Int)) (l : List Rd) (k : Nat) (h : k < l.length) : Dx p who ts (l.take (k + 1)) = rs2 who (rs1 who (Dx p who ts (l.take k)) l[k]) l[k] := by
 unfold Dx; rw [List.take_succ_eq_append_getElem h, List.foldl_append]; rfl
theorem Qo (p : Par) (who : Int) (l : List Ag) (f : Nat) (k : Nat) (h : k < l.length) : Az p who (l.take (k + 1)) f = if l[k].from_ = (f : Int) ∧ l[k].to = who then l[k].ticks else Az p who (l.take k) f := by
 unfold Az; rw [List.take_succ_eq_append_getElem h, List.foldl_append]; rfl
theorem Up (who : Int) (i : Inp) (r : Rd) : (rs1 who i r).heard = i.heard ∧ (rs1 who i r).HA = i.HA ∧ (rs1 who i r).hcap = i.hcap ∧ (rs1 who i r).ticks = i.ticks ∧ (rs1 who i r).tab = i.tab ∧ (rs1 who i r).TA = i.TA ∧ (rs1 who i r).tcap = i.tcap := by
 unfold rs1; split <;> exact ⟨rfl, rfl, rfl, rfl, rfl, rfl, rfl⟩
theorem As6 (who : Int) (i : Inp) (r : Rd) : (rs2 who i r).heard = i.heard ∧ (rs2 who i r).HA = i.HA ∧ (rs2 who i r).hcap = i.hcap ∧ (rs2 who i r).ticks = i.ticks := by
 unfold rs2; split <;> exact ⟨rfl, rfl, rfl, rfl⟩
theorem Rr (p : Par) (who : Int) (ts : List (Int × Int)) (l : List Rd) : (Dx p who ts l).heard = [] ∧ (Dx p who ts l).HA = none ∧ (Dx p who ts l).hcap = 0 ∧ (Dx p who ts l).ticks = Fe p who ts := by
  unfold Dx
  have : ∀ (l : List Rd) (i : Inp), (l.foldl (Cd who) i).heard = i.heard ∧ (l.foldl (Cd who) i).HA = i.HA ∧ (l.foldl (Cd who) i).hcap = i.hcap ∧ (l.foldl (Cd who) i).ticks = i.ticks := by
    intro l
    induction l with
    | nil => intro i; exact ⟨rfl, rfl, rfl, rfl⟩
    | cons r l ih =>
      intro i; have h1 := ih (Cd who i r); have h2 := As6 who (rs1 who i r) r; have h3 := Up who i r; refine ⟨h1.1.trans (h2.1.trans h3.1), h1.2.1.trans (h2.2.1.trans h3.2.1), h1.2.2.1.trans (h2.2.2.1.trans h3.2.2.1), h1.2.2.2.trans (h2.2.2.2.trans h3.2.2.2.1)⟩
  exact this l _
theorem Az2 {G : List Res} (p : Par) (who : Int) (ts : List (Int × Int)) (l : List Rd) (h : ∀ r ∈ l, Bn r.tab ∧ Rds [] G (.slice r.A r.tab.length r.cap) r.tab.length (lcs r.tab)) (hn : Rds [] G (.slice none 0 0) 0 []) :
    Bn (Dx p who ts l).tab ∧ Rds [] G (.slice (Dx p who ts l).TA (Dx p who ts l).tab.length (Dx p who ts l).tcap) (Dx p who ts l).tab.length (lcs (Dx p who ts l).tab) := by
  unfold Dx
  have : ∀ (l : List Rd) (i : Inp), (∀ r ∈ l, Bn r.tab ∧ Rds [] G (.slice r.A r.tab.length r.cap) r.tab.length (lcs r.tab)) → (Bn i.tab ∧ Rds [] G (.slice i.TA i.tab.length i.tcap) i.tab.length (lcs i.tab)) → Bn (l.foldl (Cd who) i).tab ∧ Rds [] G (.slice (l.foldl (Cd who) i).TA (l.foldl (Cd who) i).tab.length (l.foldl (Cd who) i).tcap) (l.foldl (Cd who) i).tab.length (lcs (l.foldl (Cd who) i).tab) := by
    intro l
    induction l with
    | nil => intro i _ h; exact h
    | cons r l ih =>
      intro i hl h; refine ih _ (fun x hx => hl x (by simp [hx])) ?_; have h1 := Up who i r
      have h2 : Bn (rs1 who i r).tab ∧ Rds [] G (.slice (rs1 who i r).TA (rs1 who i r).tab.length (rs1 who i r).tcap) (rs1 who i r).tab.length (lcs (rs1 who i r).tab) := by
        rw [h1.2.2.2.2.1, h1.2.2.2.2.2.1, h1.2.2.2.2.2.2]; exact h
      unfold Cd; unfold rs2; split
      · exact hl r (by simp)
      · exact h2
  exact this l _ h ⟨Cz Ek, hn⟩
def A4q (x : It) (b : Bool) (r : List It) : List It := match b with | true => x :: r | false => []
theorem Ay6 (r : List It) : A4q (r.headD e0) (decide (r ≠ [])) r.tail = r := by
 cases r with
 | nil => rfl
 | cons x r => rfl
theorem Bm3 {Q : Qs} (hQ : Q.length = 48) {k : Nat} (hk : k < 48) (r : List It) : Pt (Q.set k r) (k : Int) = r.headD e0 ∧ Yy (Q.set k r) (k : Int) = decide (r ≠ []) ∧ Wm (Q.set k r) (k : Int) = Q.set k r.tail := by
 have hin : inR (k : Int) := by unfold inR; omega
 have hq : qat (Q.set k r) (k : Int) = r := by
  unfold qat
  rw [List.getD_eq_getElem?_getD, Int.toNat_natCast, List.getElem?_set_self (by omega)]; rfl
 refine ⟨?_, ?_, ?_⟩
 ·unfold Pt; rw [if_pos hin, hq]
 ·unfold Yy; rw [hq]; exact decide_eq_decide.2 ⟨fun h => h.2, fun h => ⟨hin, h⟩⟩
 ·unfold Wm; rw [if_pos hin, hq, Int.toNat_natCast, List.set_set]
theorem A5x {Q : Qs} (k : Nat) : Q.set k (Q.getD k []) = Q := by
 rcases Nat.lt_or_ge k Q.length with h | h
 ·rw [List.getD_eq_getElem?_getD, List.getElem?_eq_getElem h]; simp
 ·exact List.set_eq_of_length_le h
theorem Im (qs : Qs) (age : Nat → Int) (k : Nat) : Bj qs age (k + 1) = Bj qs age k ++ Eh k (age k) (qs.getD k []) := by
 unfold Bj; rw [List.range_succ, List.flatMap_append]; simp
theorem Uo (f : Nat) (age : Int) (x : It) (q : List It) : Eh f age (x :: q) = (match Xm f age x with | some y => [y] | none => []) ++ Eh f age q := by
 unfold Eh; rw [List.filterMap_cons]; cases Xm f age x <;> rfl
theorem E7 {f : Nat} {age : Int} {q : List It} {y : M × Int} (h : y ∈ Eh f age q) : y.1.from_ = (f : Int) ∧ ∃ x ∈ q, y.1 = (Cu x.1.data.toList).1 ∧ (Cu x.1.data.toList).2 = 0 := by
 unfold Eh at h; obtain ⟨x, hx, hy⟩ := List.mem_filterMap.1 h; unfold Xm at hy; split at hy
 ·rename_i hc; injection hy with hy; subst hy; exact ⟨hc.2, x, hx, rfl, hc.1⟩
 ·cases hy
theorem Sh (f : Nat) (age : Int) (q : List It) : (Eh f age q).length ≤ q.length := List.length_filterMap_le _ _
theorem Mb {qs : Qs} {age : Nat → Int} {k : Nat} {y : M × Int} (h : y ∈ Bj qs age k) : ∃ f, f < k ∧ y ∈ Eh f (age f) (qs.getD f []) := by
 unfold Bj at h; obtain ⟨f, hf, hy⟩ := List.mem_flatMap.1 h; exact ⟨f, List.mem_range.1 hf, hy⟩
theorem Ac6 (qs : Qs) (age : Nat → Int) (k : Nat) : (Bj qs age k).Pairwise fun a b => a.1.from_ ≤ b.1.from_ := by
  induction k with
  | zero => exact .nil
  | succ k ih =>
    rw [Im, List.pairwise_append]; refine ⟨ih, ?_, fun a ha b hb => ?_⟩
    · refine List.pairwise_of_forall_mem_list fun a ha b hb => ?_; rw [(E7 ha).1, (E7 hb).1]; exact Int.le_refl _
    · obtain ⟨f, hf, ha⟩ := Mb ha; rw [(E7 ha).1, (E7 hb).1]; omega
theorem Rk {qs : Qs} (h : ∀ q ∈ qs, q.length ≤ 64) (age : Nat → Int) (k : Nat) : (Bj qs age k).length ≤ 64 * k := by
  induction k with
  | zero => simp [Bj]
  | succ k ih =>
    rw [Im, List.length_append]; have h1 := Sh k (age k) (qs.getD k [])
    have h2 : (qs.getD k []).length ≤ 64 := by
      rw [List.getD_eq_getElem?_getD]
      cases hq : qs[k]? with
      | none => simp
      | some q => exact h q (List.mem_of_getElem? hq)
    omega
theorem Bi8 {hs : List Hd} {qs : Qs} {age : Nat → Int} {k : Nat} (h : hs.map ma = Bj qs age k) : Asc hs := by
 have h2 := Ac6 qs age k; rw [← h, List.pairwise_map] at h2; exact h2
def Kg (qs : Qs) (k : Nat) : Qs := List.replicate k [] ++ qs.drop k
theorem Aw4 {qs : Qs} (h : qs.length = 48) : Kg qs 48 = qs0 := by
 unfold Kg qs0; rw [List.drop_of_length_le (by omega), List.append_nil]
theorem Xj {qs : Qs} {k : Nat} (h : qs.length = 48) (hk : k ≤ 48) : (Kg qs k).length = 48 := by
 unfold Kg; rw [List.length_append, List.length_replicate, List.length_drop]; omega
theorem Ba2 {qs : Qs} {k : Nat} (h : k < qs.length) : (Kg qs k).getD k [] = qs.getD k [] := by
 unfold Kg; rw [List.getD_eq_getElem?_getD, List.getD_eq_getElem?_getD, List.getElem?_append_right (by simp)]; simp
theorem An6 {qs : Qs} {k : Nat} (h : k < qs.length) : (Kg qs k).set k [] = Kg qs (k + 1) := by
 unfold Kg; rw [List.set_append_right _ _ (by simp)]; simp only [List.length_replicate, Nat.sub_self]; rw [List.drop_eq_getElem_cons h, List.set_cons_zero, List.replicate_succ', List.append_assoc]; rfl
theorem Au8 {b : Nat} {N : Int} {qs : Qs} {w : World} (h : (QR b N qs).holds w) : ∀ q ∈ qs, q.length ≤ 64 := by
 obtain ⟨rows, h1, rfl, _⟩ := h; intro q hq; obtain ⟨r, hr, rfl⟩ := List.mem_map.1 hq; have hw := h1.wf r hr; have := hw.c; rw [Rw.items_length]; omega
theorem Ap3 (p : Par) (who : Int) (ts : List (Int × Int)) (l : List Rd) : { Dx p who ts l with heard := [], HA := none, hcap := 0 } = Dx p who ts l := by
 have h := Rr p who ts l; rcases hh : Dx p who ts l with ⟨a, b, c, d, e, f, g, i, j, k⟩
 rw [hh] at h; simp only at h; simp [h.1, h.2.1, h.2.2.1]
theorem Ux {l : List (Int × Int)} (h : Km l) : Bn l := by
 refine ⟨by have := h.1; omega, fun x hx => ?_⟩; obtain ⟨k, hk, rfl⟩ := List.getElem_of_mem hx; have h2 := h.2 k hk; have e : lp l k = l[k] := by simp [lp, hk]
 unfold H1 at h2; rw [e] at h2; unfold Bz; omega
theorem Ax1 {l : List UInt8} (h : (Cu l).2 = 0) : (Cu l).1.Ok := by
  unfold Cu at h ⊢; split
  · rename_i hc; rw [if_pos hc] at h; cases h
  · rename_i hc; rw [if_neg hc] at h
    cases ho : opn l with
    | none => rw [ho] at h; cases h
    | some q =>
      rw [ho] at h; dsimp only at h ⊢; split
      · rename_i hf; rw [if_pos hf] at h; split
        · rename_i hm; exact hm
        · rename_i hm; rw [if_neg hm] at h; cases h
      · rename_i hf; rw [if_neg hf] at h; cases h
theorem Ba9 {l : List UInt8} (h : (Cu l).2 = 0) : Bn (Cu l).1.tab := Ux (Ax1 h).2
theorem Ww {r : List It} (h : ∀ y ∈ r, y.1.size ≤ 4096) : ∀ y ∈ r.headD e0 :: r.tail, y.1.size ≤ 4096 := by
  intro y hy
  cases r with
  | nil =>
    simp only [List.headD_nil, List.tail_nil, List.mem_singleton] at hy; subst hy; exact Nat.zero_le _
  | cons x r => exact h y hy
theorem Al5 {qs : Qs} (h : ∀ q ∈ qs, ∀ x ∈ q, x.1.size ≤ 4096) (k : Nat) : ∀ y ∈ qs.getD k [], y.1.size ≤ 4096 := by
 rw [List.getD_eq_getElem?_getD]
 cases hq : qs[k]? with
 | none => intro y hy; cases hy
 | some q => exact h q (List.mem_of_getElem? hq)
theorem Mq (a : ByteArray) : a.data.toList.length = a.size := Array.length_toList
section
variable {w0 w : World} {F0 : List Nat} {L G : List Res}
theorem Z6 (b : Nat) (Q : Qs) (hQ : Q.length = 48) (k : Nat) (hk : k < 48) (r : List It) (w0 w : World) (F0 : List Nat) (L G : List Res) (I : St w0 F0 w (QR b 0 (Q.set k r) :: L) G) :
  Calls Tryz.prog 58 #[.pointer (some ⟨b, 0, none⟩), .int .i64 (k : Int)] w fun e w' => ∃ c, e = .returned (.tuple #[.agg #[.string (r.headD e0).1, .int .i64 (r.headD e0).2], .bool c]) ∧ c = decide (r ≠ []) ∧ St w0 F0 w' (QR b 0 (Q.set k r.tail) :: L) G := by
 obtain ⟨h1, h2, h3⟩ := Bm3 hQ hk r; refine (A7z b 0 (Q.set k r) (k : Int) _ _ _ _ _ I (by decide)).mono ?_; rintro e w' ⟨c, he, hc, I⟩; rw [h1] at he; rw [h2] at hc; rw [h3] at I; exact ⟨c, he, hc, I⟩
end
end
section
open Tryz Go.RowKit YtaanjifekgfemaaGreat.K YtaanjifekgfemaaGreat.W YtaanjifekgfemaaGreat.LN
attribute [local irreducible] Bg Ak Bb sub neg mag Da mul Dy
theorem Biz {S ρ ty} {parts : Array (Nat × Operand)} {x0 : Int} (hp : (parts.toList.map fun x => (x.1, ev ρ x.2)) = [(0, .int .i64 x0)]) : Y Tryz.prog S ρ (.build 99 parts) ty (.agg #[.int .i64 x0, Value.slice none 0 0, Value.bool false, .int .i64 0, Value.bool false, Value.slice none 0 0]) :=
 Y.build hp fun w => by simp [Instr.build, go_sem]
theorem Am6 {S ρ ty} {parts : Array (Nat × Operand)} {a b g h j k : Int} {m : Bool} {n : Bool} {o q r t u : Int} {d : Option Addr} {f e : Nat} {x1 : Int} (hp : (parts.toList.map fun x => (x.1, ev ρ x.2)) = [(0, .agg #[.int .i64 a, .int .i64 b, .int .i64 g, .int .i64 h, .int .i64 j, .int .i64 k, Value.bool m, Value.bool n, .int .i64 o, .int .i64 q, .int .i64 r, .int .i64 t, .int .i64 u, Value.slice d f e]), (1, .int .i64 x1)]) : Y Tryz.prog S ρ (.build 138 parts) ty (.agg #[.int .i64 a, .int .i64 b, .int .i64 g, .int .i64 h, .int .i64 j, .int .i64 k, Value.bool m, Value.bool n, .int .i64 o, .int .i64 q, .int .i64 r, .int .i64 t, .int .i64 u, Value.slice d f e, .int .i64 x1]) :=
 Y.build hp fun w => by simp [Instr.build, go_sem]
theorem Ab4 : FA 40 0 0 := fun _ _ => by simp [Instr.fieldAt, Instr.sureAddr, go_sem]
theorem Ab5 : FA 40 1 1 := fun _ _ => by simp [Instr.fieldAt, Instr.sureAddr, go_sem]
theorem Ab6 : FA 40 2 2 := fun _ _ => by simp [Instr.fieldAt, Instr.sureAddr, go_sem]
theorem Ax6 : FA 43 0 0 := fun _ _ => by simp [Instr.fieldAt, Instr.sureAddr, go_sem]
theorem Bk3 : FA 43 1 1 := fun _ _ => by simp [Instr.fieldAt, Instr.sureAddr, go_sem]
theorem Bk4 : FA 43 2 2 := fun _ _ => by simp [Instr.fieldAt, Instr.sureAddr, go_sem]
theorem Bk5 : FA 43 3 3 := fun _ _ => by simp [Instr.fieldAt, Instr.sureAddr, go_sem]
theorem Bk6 : FA 43 4 4 := fun _ _ => by simp [Instr.fieldAt, Instr.sureAddr, go_sem]
theorem Bb0 : FA 119 0 0 := fun _ _ => by simp [Instr.fieldAt, Instr.sureAddr, go_sem]
theorem Bb1 : FA 119 1 1 := fun _ _ => by simp [Instr.fieldAt, Instr.sureAddr, go_sem]
theorem Bb2 : FA 121 0 0 := fun _ _ => by simp [Instr.fieldAt, Instr.sureAddr, go_sem]
theorem Bb3 : FA 121 1 2 := fun _ _ => by simp [Instr.fieldAt, Instr.sureAddr, go_sem]
theorem Bb4 : FA 132 0 0 := fun _ _ => by simp [Instr.fieldAt, Instr.sureAddr, go_sem]
theorem Bj8 : CF 58 := fun _ _ => by simp [go_sem]
theorem Bv0 : CF 59 := fun _ _ => by simp [go_sem]
set_option maxHeartbeats 4000000 in
theorem Ap4 (wb : Nat) (p : Par) (time : Int) (ub : Nat) (us : List Un) (uc : Nat) (LA : Option Addr) (nl lc : Nat) (stp : Stp) (ui : Nat) (hlt : ui < us.length) (qs : Qs) (hqs : ∀ q ∈ qs, ∀ x ∈ q, x.1.size ≤ 4096) (w0 w : World) (F0 : List Nat) (L G : List Res) (I : St w0 F0 w (Aa wb (wC p (time) (.slice (some ⟨ub, 0, none⟩) us.length uc) (.slice LA nl lc)) 86 :: QR us[ui].lb 0 (qs) :: L) G) (hru : Rds L G (.slice (some ⟨ub, 0, none⟩) us.length uc) us.length (Ae unC us)) (hok : stp.Ok G) :
  Calls Tryz.prog 31 #[.pointer (some ⟨wb, 0, none⟩), .pointer (some ⟨ub, ui * 4, none⟩), .agg (Kc stp).toArray] w fun e w' => ∃ (i : Inp) (G' : List Res), e = .returned (.agg (Fp i).toArray) ∧ InpOf p stp us[ui].who qs i ∧ (∀ r ∈ G, r ∈ G') ∧ Rds [] G' (.slice i.HA i.heard.length i.hcap) i.heard.length (Ae hdC i.heard) ∧ Lq G' i.heard ∧ (i.TA = (Dx p us[ui].who stp.ticks stp.reads).TA ∧ i.tcap = (Dx p us[ui].who stp.ticks stp.reads).tcap) ∧ i.heard.length ≤ 1000000 ∧ St w0 F0 w' (Aa wb (wC p (time) (.slice (some ⟨ub, 0, none⟩) us.length uc) (.slice LA nl lc)) 86 :: QR us[ui].lb 0 (qs0) :: L) G' := by
 have hq48 := Bi5 (I.res _ (.tail _ (.head _))); have hq64 := Au8 (I.res _ (.tail _ (.head _))); obtain ⟨hl0, hl1, hl2, hl3, hl4, hl5, hl6, hl7⟩ := hok.lens; refine W.func func31 O ntmps31 O<|Wh O<|Ow O (X.boxA I O fun p5 w5 I => Ow O (X.allocA I zeroValue99 fun p6 w6 I => Ds O O<|I.p O O<|I.t O O<|I.f N2 O O<|I.f I5 O O<|I.l 2 O O O O<|I.y O (Biz O)<|Ow O (X.allocA I zeroValue99 fun p7 w7 I => Ow O (X.storeS I 0 sizeOf99 O O O O O (lZ O) O O fun _ I => Od O<|Wq O<|Wh O<|I.f Ab4 O O<|I.y O (Y.load 2 isAgg36 O O O)<|I.y O (Y.lenS underlying36 O)<|I.u O O<|Od O<|Wb O<|?_)))); refine W.loop (γ := Nat) [(0, .pointer _), (1, .pointer _), (5, .pointer _), (6, .pointer _), (7, .pointer _), (27, .slice _ _ _), (28, .int _ _)] (fun k0 => [(29, .int .i64 (k0 : Int))]) (fun k0 w => k0 ≤ stp.ticks.length ∧ St w0 F0 w (Aa p7 (Fp (Tg (Fe p us[ui].who (stp.ticks.take k0)))) 99 :: Aa p6 (Fp (Tg 0)) 99 :: Aa p5 (Kc stp) 40 :: Aa wb (wC p (time) (.slice (some ⟨ub, 0, none⟩) us.length uc) (.slice LA nl lc)) 86 :: QR us[ui].lb 0 (qs) :: L) G) (fun k0 => stp.ticks.length - k0) (0) O ⟨O, O, O, O, O, O, O, trivial⟩ ?_ ?_ ?_
 ·exact ⟨O, trivial⟩
 ·exact ⟨by omega, I⟩
 ·clear I; rintro k0 j w3 ⟨hk, I⟩; refine Wh O<|I.v O O O (fun b30 hb30 => Od O<|Wq O<|?_); cases b30
  ·replace hb30 := dF hb30; refine Wu O O<|W.exit O<|Wq O<|Wq O<|?_; obtain rfl : k0 = stp.ticks.length := by omega
   rw [List.take_length] at I; refine Wr O<|I.f Ab5 O O<|I.y O (Y.load 2 isAgg37 O O O)<|I.y O (Y.lenS underlying37 O)<|I.u O O<|Od O<|Wb O<|?_; refine W.loop (γ := Nat) [(0, .pointer _), (1, .pointer _), (5, .pointer _), (6, .pointer _), (7, .pointer _), (45, .slice _ _ _), (46, .int _ _)] (fun k1 => [(47, .int .i64 (k1 : Int))]) (fun k1 w => k1 ≤ stp.reads.length ∧ St w0 F0 w (Aa p7 (Fp (Dx p us[ui].who stp.ticks (stp.reads.take k1))) 99 :: Aa p6 (Fp (Tg 0)) 99 :: Aa p5 (Kc stp) 40 :: Aa wb (wC p (time) (.slice (some ⟨ub, 0, none⟩) us.length uc) (.slice LA nl lc)) 86 :: QR us[ui].lb 0 (qs) :: L) G) (fun k1 => stp.reads.length - k1) (0) O ⟨O, O, O, O, O, O, O, trivial⟩ ?_ ?_ ?_
   ·exact ⟨O, trivial⟩
   ·exact ⟨by omega, I⟩
   ·clear I; rintro k1 j w9 ⟨hk, I⟩; refine Wh O<|I.v O O O (fun b48 hb48 => Od O<|Wq O<|?_); cases b48
    ·replace hb48 := dF hb48; refine Wu O O<|W.exit O<|Wq O<|Wq O<|?_; obtain rfl : k1 = stp.reads.length := by omega
     rw [List.take_length] at I; refine Wr O ?_; replace I := I.nilRow 138 15; refine I.u O O<|Od O<|Wb O<|?_; refine W.loop (γ := Nat × List Hd × (Option Addr × Nat) × List Res) [(0, .pointer _), (1, .pointer _), (5, .pointer _), (6, .pointer _), (7, .pointer _)] (fun x => [(82, .int .i64 (x.1 : Int))]) (fun x w => (x.1 ≤ 48 ∧ x.2.1.map ma = Bj qs (Az p us[ui].who stp.ages) x.1 ∧ (∀ r ∈ G, r ∈ x.2.2.2) ∧ Lq x.2.2.2 x.2.1) ∧ St w0 F0 w (Af (.slice x.2.2.1.1 (x.2.1).length x.2.2.1.2) 138 15 (x.2.1).length (Ae hdC (x.2.1)) :: Aa p7 (Fp ({ Dx p us[ui].who stp.ticks stp.reads with heard := x.2.1, HA := x.2.2.1.1, hcap := x.2.2.1.2 })) 99 :: Aa p6 (Fp (Tg 0)) 99 :: Aa p5 (Kc stp) 40 :: Aa wb (wC p (time) (.slice (some ⟨ub, 0, none⟩) us.length uc) (.slice LA nl lc)) 86 :: QR us[ui].lb 0 (Kg qs x.1) :: L) x.2.2.2) (fun x => 48 - x.1) ((0, [], (none, 0), G)) O ⟨O, O, O, O, O, trivial⟩ ?_ ?_ ?_
     ·exact ⟨O, trivial⟩
     ·exact ⟨⟨Nat.zero_le 48, O, fun r hr => hr, fun h hh => (by cases hh)⟩, by dsimp only; rw [Ap3]; exact I⟩
     ·clear I; rintro ⟨k, hs, ⟨HA, hc⟩, G1⟩ j w17 ⟨⟨hk, hma, hG1, hf1⟩, I⟩; dsimp only at hk hma hG1 hf1; refine Wh O<|I.v O O O (fun b83 hb83 => Od O<|Wq O<|?_); cases b83
      ·replace hb83 := dF hb83; refine Wu O O<|W.exit O<|Wq O<|?_; obtain rfl : k = 48 := by omega
       rw [Aw4 hq48] at I; refine Wr O<|I.y O (Y.loadA 1 isAgg99 sizeOf99 O O O O)<|Ow O (X.storeS I 2 sizeOf99 O O O O O (lZ O) O O fun _ I => Od O<|We O<|⟨_, Ac.cell results31 O (Bd isAgg99 sizeOf99 2 I O O), ?_⟩); have hst2 : St w0 F0 _ (Af (.slice HA (hs).length hc) 138 15 (hs).length (Ae hdC (hs)) :: Aa wb (wC p (time) (.slice (some ⟨ub, 0, none⟩) us.length uc) (.slice LA nl lc)) 86 :: QR us[ui].lb 0 (qs0) :: L) G1 := (I.sub (.cons_cons _ (.cons _ (.cons _ (.cons _ (.cons_cons _ (.cons_cons _ (.refl _))))))))
       have hhl : hs.length ≤ 1000000 := by
        have h1 := congrArg List.length hma; rw [List.length_map] at h1; have h2 := Rk hq64 (Az p us[ui].who stp.ages) 48; omega
       exact ⟨{ Dx p us[ui].who stp.ticks stp.reads with heard := hs, HA := HA, hcap := hc }, _, O, ⟨(Rr p _ _ _).2.2.2, O, O, O, O, hma⟩, fun r hr => .tail _ (hG1 r hr), Rds.rowG 0 O, fun h hh => ⟨(hf1 h hh).1, (hf1 h hh).2.consG _⟩, ⟨O, O⟩, hhl, hst2.toFact⟩
      ·replace hb83 := dT hb83; refine Wt O O<|Wk O<|Wq O<|Wb O<|Wq O<|?_; have hk48 : k < 48 := by omega
       have hru1 := hru.moreG hG1; have hok1 := hok.mono hG1; have hQ : (Kg qs k).length = 48 := Xj hq48 (by omega); refine Wr O<|I.u O O<|I.a O O<|Od O<|Wq O<|W.drawn O (by kernel_rfl) (Ctx _ _ (_) (_)) [] (.op 0 0 (.op 1 0 (.op 2 0 (.op 3 0 (.op 4 0 (.op 5 0 (.op 6 0 (.op 7 0 (.op 8 0 (.op 9 0 (.op 10 1 (.op 11 0 .nil)))))))))))) O (by kernel_rfl) I.drew.ctx<|?_; replace I := I.drew; generalize World.drew _ = wd at I ⊢; refine I.zp O O<|I.zt O O<|I.zf N2 O O<|I.zf I5 O O<|I.zl 4 O O O O<|I.zp O O<|I.zt O O<|I.zf N2 O O<|I.zf N1 O O<|I.zl 4 O O O O<|Dw O (X.ret S9 (Ge _ _ _ _ _ _ _ I ) O fun _ I => ⟨I.ctx, I.za O O<|Dd<|Wq O<|Wh O<|I.f Ab6 O O<|I.y O (Y.load 3 isAgg38 O O O)<|I.y O (Y.lenS underlying38 O)<|I.u O O<|Od O<|Wb O<|?_⟩); refine W.loop (γ := Nat) [(0, .pointer _), (1, .pointer _), (5, .pointer _), (6, .pointer _), (7, .pointer _), (12, .int _ _), (82, .int _ _), (97, .slice _ _ _), (98, .int _ _)] (fun k2 => [(99, .int .i64 (k2 : Int)), (13, .int .i64 (Az p us[ui].who (stp.ages.take k2) k))]) (fun k2 w => k2 ≤ stp.ages.length ∧ St w0 F0 w (Af (.slice HA (hs).length hc) 138 15 (hs).length (Ae hdC (hs)) :: Aa p7 (Fp ({ Dx p us[ui].who stp.ticks stp.reads with heard := hs, HA := HA, hcap := hc })) 99 :: Aa p6 (Fp (Tg 0)) 99 :: Aa p5 (Kc stp) 40 :: Aa wb (wC p (time) (.slice (some ⟨ub, 0, none⟩) us.length uc) (.slice LA nl lc)) 86 :: QR us[ui].lb 0 ((Kg qs k)) :: L) G1) (fun k2 => stp.ages.length - k2) (0) O ⟨O, O, O, O, O, O, O, O, O, trivial⟩ ?_ ?_ ?_
       ·exact ⟨O, O, trivial⟩
       ·exact ⟨by omega, I⟩
       ·clear I; rintro k2 j w21 ⟨hk2', I⟩; refine Wh O<|I.v O O O (fun b100 hb100 => Od O<|Wq O<|?_); cases b100
        ·replace hb100 := dF hb100; refine Wu O O<|W.exit O<|Wq O<|?_; obtain rfl : k2 = stp.ages.length := by omega
         have hset := A5x (Q := (Kg qs k)) k; rw [Ba2 (by omega)] at hset; rw [← hset] at I; refine Wr O<|I.p O O<|I.t O O<|I.f Q7 O O<|I.y O (Y.loadCell isAgg94 O ((((((hru1.cons _).cons _).cons _).cons _).cons _).cons _) ((C4 D1 us ui 3 hlt (by decide)).trans O))<|?_; refine I.u O O<|Oc O Bj8 O ?_; refine Ab (Z6 us[ui].lb (Kg qs k) hQ k hk48 (qs.getD k []) _ _ _ _ _ I.up_5) O ?_; clear I; rintro e w121 ⟨b121, rfl, hb121, I⟩; replace I := I.dn5; refine ⟨_, O, ?_⟩; refine I.y O (Y.moveU O)<|I.e O O O<|I.e O O O<|Ow O (X.allocA I zeroValue132 fun p16 w16 I => Ow O (X.storeS I 0 sizeOf132 O O O O O (lZ O) O O fun _ I => I.g O O<|Od O<|Wb O<|?_)); refine W.loop (γ := Nat × (It × Bool × List It) × List Hd × (Option Addr × Nat) × List Res) [(0, .pointer _), (1, .pointer _), (5, .pointer _), (6, .pointer _), (7, .pointer _), (12, .int _ _), (13, .int _ _), (82, .int _ _)] (fun x => [(16, .pointer (some ⟨x.1, 0, none⟩)), (17, .bool x.2.1.2.1)]) (fun x w => ((x.2.2.1).map ma ++ Eh k ((Az p us[ui].who stp.ages) k) (A4q x.2.1.1 x.2.1.2.1 x.2.1.2.2) = Bj qs (Az p us[ui].who stp.ages) (k + 1) ∧ (x.2.1.2.1 = false → x.2.1.2.2 = []) ∧ (∀ y ∈ x.2.1.1 :: x.2.1.2.2, y.1.size ≤ 4096) ∧ (∀ r ∈ G1, r ∈ x.2.2.2.2) ∧ Lq x.2.2.2.2 (x.2.2.1)) ∧ St w0 F0 w (Aa x.1 [.string x.2.1.1.1, .int .i64 x.2.1.1.2] 132 :: Af (.slice x.2.2.2.1.1 (x.2.2.1).length x.2.2.2.1.2) 138 15 (x.2.2.1).length (Ae hdC (x.2.2.1)) :: Aa p7 (Fp ({ Dx p us[ui].who stp.ticks stp.reads with heard := x.2.2.1, HA := x.2.2.2.1.1, hcap := x.2.2.2.1.2 })) 99 :: Aa p6 (Fp (Tg 0)) 99 :: Aa p5 (Kc stp) 40 :: Aa wb (wC p (time) (.slice (some ⟨ub, 0, none⟩) us.length uc) (.slice LA nl lc)) 86 :: QR us[ui].lb 0 ((Kg qs k).set k (x.2.1.2.2)) :: L) x.2.2.2.2) (fun x => x.2.1.2.2.length + (match x.2.1.2.1 with | true => 1 | false => 0)) ((p16, ((qs.getD k []).headD e0, b121, (qs.getD k []).tail), hs, (HA, hc), G1)) rfl ⟨rfl, rfl, rfl, rfl, rfl, rfl, rfl, rfl, trivial⟩ ?_ ?_ ?_
         ·exact ⟨O, O, trivial⟩
         ·have htl := Ay6 (qs.getD k []); rw [← hb121] at htl; refine ⟨⟨?_, ?_, Ww (Al5 hqs k), fun r hr => hr, hf1⟩, I⟩
          ·dsimp only; rw [htl, hma, Im]
          ·intro hb; have hb' : b121 = false := hb; rw [hb'] at hb121; have h0 := of_decide_eq_false hb121.symm; have h1 : (qs.getD k []) = [] := Decidable.not_not.1 h0; show (qs.getD k []).tail = []; rw [h1]; rfl
         ·clear I; rintro ⟨pb, ⟨x, b17, r⟩, hs, ⟨HA2, hc2⟩, G2⟩ j w27 ⟨⟨hpu, hrf, hsz, hG2, hf2⟩, I⟩; dsimp only at hpu hrf hsz hG2 hf2; have hb17 : b17 = decide (b17 = true) := by (cases b17 <;> rfl)
          refine Wq O<|Wh O<|I.b O O<|Od O<|?_; cases b17
          ·replace hb17 := dF hb17; refine Wu O O<|W.exit O<|Wr O<|I.j O O O (by omega)<|I.u O O<|Od O<|?_; have hr0 : r = [] := hrf rfl; subst hr0; have hsc := An6 (qs := qs) (k := k) (by omega); have hst2 := (I.dr 1); rw [hsc] at hst2; exact ⟨(k + 1, hs, (HA2, hc2), G2), ⟨O, trivial⟩, ⟨O, O, O, O, O, trivial⟩, ⟨⟨by omega, by have h9 : hs.map ma ++ [] = Bj qs (Az p us[ui].who stp.ages) (k + 1) := hpu; rwa [List.append_nil] at h9, fun r hr => hG2 r (hG1 r hr), hf2⟩, hst2⟩, by dsimp only; omega⟩
          ·replace hb17 := dT hb17; refine Wt O O<|Wk O<|Wq O<|Wb O<|Wq O<|?_; have hpu2 := hpu; refine Wr O<|I.f Bb4 O O<|I.y O (Y.load 0 isAgg9 O O O)<|Oc O Bv0 O ?_; refine Ab (Z1 x.1.data.toList _ _ _ _ _ I (by rw [Mq]; have := hsz x (.head _); omega)) rfl ?_; clear I; rintro e w137 ⟨A137, c137, rfl, I⟩; replace I := I.toFact; refine ⟨_, O, ?_⟩; refine I.y O (Y.moveU O)<|I.e O O O<|I.e O O O<|Ow O (X.allocA I zeroValue103 fun p18 w18 I => Ow O (X.storeS I 0 sizeOf103 O O O O O (lZ O) O O fun _ I => I.a O O<|Od O<|Wq O<|?_)); refine W.cut [(0, .pointer _), (1, .pointer _), (5, .pointer _), (6, .pointer _), (7, .pointer _), (12, .int _ _), (13, .int _ _), (16, .pointer _), (18, .pointer _), (82, .int _ _)] (fun x : Bool => [(147, .bool x)]) (fun y w => y = decide ((Cu x.1.data.toList).2 = 0 ∧ (Cu x.1.data.toList).1.from_ = (k : Int)) ∧ St w0 F0 w (Aa p18 (Pq (Cu x.1.data.toList).1 A137 c137) 103 :: Aa pb [.string x.1, .int .i64 x.2] 132 :: Af (.slice HA2 (hs).length hc2) 138 15 (hs).length (Ae hdC (hs)) :: Aa p7 (Fp ({ Dx p us[ui].who stp.ticks stp.reads with heard := hs, HA := HA2, hcap := hc2 })) 99 :: Aa p6 (Fp (Tg 0)) 99 :: Aa p5 (Kc stp) 40 :: Aa wb (wC p (time) (.slice (some ⟨ub, 0, none⟩) us.length uc) (.slice LA nl lc)) 86 :: QR us[ui].lb 0 ((Kg qs k).set k r) :: L) (Af (.slice A137 (Cu x.1.data.toList).1.tab.length c137) 114 2 (Cu x.1.data.toList).1.tab.length (lcs (Cu x.1.data.toList).1.tab) :: G2)) ⟨O, O, O, O, O, O, O, O, O, O, trivial⟩ ?_ ?_
           rotate_left
           ·clear I; rintro b147 j w30 ⟨hb147, I⟩; cases b147
            ·replace hb147 := dF hb147; refine Wu O O<|Wk O<|Wq O<|Wh O<|I.y O (Y.loadA 1 isAgg132 sizeOf132 O O O O)<|Od O<|Wr O<|Ow O (X.allocA I zeroValue132 fun p33 w33 I => Ow O (X.storeS I 0 sizeOf132 O O O O O (lZ O) O O fun w33_1 I => Od O<|?_)); have hru2 := (hru.moreG hG1).moreG (fun r hr => List.mem_cons_of_mem _ (hG2 r hr) : ∀ r ∈ G1, r ∈ (Af (.slice A137 (Cu x.1.data.toList).1.tab.length c137) 114 2 (Cu x.1.data.toList).1.tab.length (lcs (Cu x.1.data.toList).1.tab) :: G2)); refine Wr O<|I.p O O<|I.t O O<|I.f Q7 O O<|I.y O (Y.loadCell isAgg94 O (((((((((hru2.cons _).cons _).cons _).cons _).cons _).cons _).cons _).cons _).cons _) ((C4 D1 us ui 3 hlt (by decide)).trans O))<|?_; refine I.u O O<|Oc O Bj8 O ?_; refine Ab (Z6 us[ui].lb (Kg qs k) hQ k hk48 r _ _ _ _ _ I.up_8) O ?_; clear I; rintro e w131 ⟨b131, rfl, hb131, I⟩; replace I := I.dn8; refine ⟨_, O, ?_⟩; refine I.y O (Y.moveU O)<|I.e O O O<|I.e O O O<|Ow O (X.storeS I 0 sizeOf132 O O O O O (lZ O) O O fun w28_9 I => I.g O O<|Od O<|?_); have hrt : r.tail = [] ∨ r ≠ [] := by cases r with | nil => exact .inl rfl | cons y r => exact .inr (by simp)
             have htl := Ay6 r; rw [← hb131] at htl; have hps : hs.map ma ++ Eh k ((Az p us[ui].who stp.ages) k) (x :: r) = Bj qs (Az p us[ui].who stp.ages) (k + 1) := hpu; rw [Uo] at hps; have hdf : Xm k ((Az p us[ui].who stp.ages) k) x = none := if_neg hb147; rw [hdf] at hps; have hst2 := (I.sub (.cons_cons _ (.cons _ (.cons _ (.cons_cons _ (.cons_cons _ (.cons_cons _ (.cons_cons _ (.cons_cons _ (.cons_cons _ (.refl _))))))))))); refine ⟨(p33, (r.headD e0, b131, r.tail), hs, (HA2, hc2), (Af (.slice A137 (Cu x.1.data.toList).1.tab.length c137) 114 2 (Cu x.1.data.toList).1.tab.length (lcs (Cu x.1.data.toList).1.tab) :: G2)), ⟨O, O, trivial⟩, ⟨O, O, O, O, O, O, O, O, trivial⟩, ⟨⟨?_, ?_, ?_, ?_, ?_⟩, ?_⟩, ?_⟩
             ·dsimp only; rw [htl]; exact hps
             ·intro hb; have hb' : b131 = false := hb; rw [hb'] at hb131; have h0 := of_decide_eq_false hb131.symm; have h1 : r = [] := Decidable.not_not.1 h0; show r.tail = []; rw [h1]; rfl
             ·exact Ww (fun y hy => hsz y (.tail _ hy))
             ·exact fun r hr => .tail _ (hG2 r hr)
             ·exact fun h hh => ⟨(hf2 h hh).1, (hf2 h hh).2.consG _⟩
             ·exact hst2
             ·dsimp only; rw [hb131]
              cases r with
              | nil => simp
              | cons y r => simp
            ·replace hb147 := dT hb147; refine Wt O O ?_
             have hhl : hs.length ≤ 4000 := by
              have h1 := congrArg List.length hpu; rw [List.length_append, List.length_map] at h1; have h2 := Rk hq64 (Az p us[ui].who stp.ages) (k + 1); omega
             refine Wr rfl<|I.f Vx rfl rfl<|I.y rfl (Y.load 3 isAgg97 rfl rfl rfl)<|I.y rfl (Y.loadA 0 isAgg103 sizeOf103 rfl rfl rfl rfl)<|I.u rfl rfl<|I.y rfl (Am6 rfl)<|Ow rfl (X.lit1 I underlying97 sizeOf138 zeroValue138 rfl rfl rfl fun p153 w153 I => Ow rfl (X.app I 3 0 underlying97 V4 rfl rfl rfl rfl rfl rfl rfl rfl (by (try dsimp only); unfold maxLen; omega) (by (try dsimp only); omega) fun A154 c154 w154 I => ?_)); refine I.f Vx O O<|Ow O (X.storeV I 4 (.slice _ _ _) sizeOf97 O O O O (lZ O) O O fun _ I => Od O<|Wq O<|Wh O<|I.y O (Y.loadA 2 isAgg132 sizeOf132 O O O O)<|Od O<|Wr O<|Ow O (X.allocA I zeroValue132 fun p33 w33 I => Ow O (X.storeS I 0 sizeOf132 O O O O O (lZ O) O O fun w33_1 I => Od O<|?_))); have hru2 := (hru.moreG hG1).moreG (fun r hr => List.mem_cons_of_mem _ (hG2 r hr) : ∀ r ∈ G1, r ∈ (Af (.slice A137 (Cu x.1.data.toList).1.tab.length c137) 114 2 (Cu x.1.data.toList).1.tab.length (lcs (Cu x.1.data.toList).1.tab) :: G2)); refine Wr O<|I.p O O<|I.t O O<|I.f Q7 O O<|I.y O (Y.loadCell isAgg94 O ((((((((((hru2.cons _).cons _).cons _).cons _).cons _).cons _).cons _).cons _).cons _).cons _) ((C4 D1 us ui 3 hlt (by decide)).trans O))<|?_; refine I.u O O<|Oc O Bj8 O ?_; refine Ab (Z6 us[ui].lb (Kg qs k) hQ k hk48 r _ _ _ _ _ I.up_9) O ?_; clear I; rintro e w131 ⟨b131, rfl, hb131, I⟩; replace I := I.dn9; refine ⟨_, O, ?_⟩; refine I.y O (Y.moveU O)<|I.e O O O<|I.e O O O<|Ow O (X.storeS I 0 sizeOf132 O O O O O (lZ O) O O fun w28_9 I => I.g O O<|Od O<|?_); have hrt : r.tail = [] ∨ r ≠ [] := by cases r with | nil => exact .inl rfl | cons y r => exact .inr (by simp)
             have htl := Ay6 r; rw [← hb131] at htl; have hps : hs.map ma ++ Eh k ((Az p us[ui].who stp.ages) k) (x :: r) = Bj qs (Az p us[ui].who stp.ages) (k + 1) := hpu; rw [Uo] at hps; have hdf : Xm k ((Az p us[ui].who stp.ages) k) x = some ((Cu x.1.data.toList).1, (Az p us[ui].who stp.ages) k) := if_pos hb147; rw [hdf] at hps; have hst2 := (I.sub (.cons_cons _ (.cons _ (.cons _ (.cons _ (.cons_cons _ (.cons_cons _ (.cons_cons _ (.cons_cons _ (.cons_cons _ (.cons_cons _ (.refl _)))))))))))); rw [show stp.ages.take stp.ages.length = stp.ages from List.take_length] at hst2; have e3 : (hs ++ [(⟨(Cu x.1.data.toList).1, A137, c137, (Az p us[ui].who stp.ages) k⟩ : Hd)]).length = hs.length + 1 := by simp
             have e4 : Ae hdC (hs ++ [(⟨(Cu x.1.data.toList).1, A137, c137, (Az p us[ui].who stp.ages) k⟩ : Hd)]) = Ae hdC hs ++ hdC (⟨(Cu x.1.data.toList).1, A137, c137, (Az p us[ui].who stp.ages) k⟩ : Hd) := by rw [Cy]; simp [Ae]
             refine ⟨(p33, (r.headD e0, b131, r.tail), hs ++ [(⟨(Cu x.1.data.toList).1, A137, c137, (Az p us[ui].who stp.ages) k⟩ : Hd)], (A154, c154), (Af (.slice A137 (Cu x.1.data.toList).1.tab.length c137) 114 2 (Cu x.1.data.toList).1.tab.length (lcs (Cu x.1.data.toList).1.tab) :: G2)), ⟨O, O, trivial⟩, ⟨O, O, O, O, O, O, O, O, trivial⟩, ⟨⟨?_, ?_, ?_, ?_, ?_⟩, ?_⟩, ?_⟩
             ·dsimp only; rw [htl, List.map_append, List.append_assoc]; exact hps
             ·intro hb; have hb' : b131 = false := hb; rw [hb'] at hb131; have h0 := of_decide_eq_false hb131.symm; have h1 : r = [] := Decidable.not_not.1 h0; show r.tail = []; rw [h1]; rfl
             ·exact Ww (fun y hy => hsz y (.tail _ hy))
             ·exact fun r hr => .tail _ (hG2 r hr)
             ·intro h hh; rcases List.mem_append.1 hh with hh | hh
              ·exact ⟨(hf2 h hh).1, (hf2 h hh).2.consG _⟩
              ·rw [List.mem_singleton] at hh; subst hh; exact ⟨Ba9 hb147.1, Rds.rowG 0 O⟩
             ·dsimp only; rw [e3, e4]; unfold Fp; dsimp only; rw [e3]; exact hst2
             ·dsimp only; rw [hb131]
              cases r with
              | nil => simp
              | cons y r => simp
           refine Wr O<|I.u O O<|I.Y O O O (fun b141 hb141 => I.b O O<|?_); cases b141
           ·replace hb141 := dF hb141; refine On O<|On O<|On O<|On O<|I.k O O O<|Od O<|?_; exact ⟨_, ⟨O, trivial⟩, ⟨O, O, O, O, O, O, O, O, O, O, trivial⟩, (decide_eq_false (fun h => hb141 h.1)).symm, I⟩
           ·replace hb141 := dT hb141; refine I.f Co O O<|I.l 0 O O O O<|I.u O O<|I.Y O O O (fun b146 hb146 => I.k O O O<|Od O<|?_); exact ⟨_, ⟨O, trivial⟩, ⟨O, O, O, O, O, O, O, O, O, O, trivial⟩, hb146.trans (decide_eq_decide.2 ⟨fun h => ⟨hb141, h⟩, fun h => h.2⟩), I⟩
        ·replace hb100 := dT hb100; refine Wt O O<|Wk O<|Wq O<|Wb O<|Wq O<|?_; have hk2 : k2 < stp.ages.length := by omega
         refine Wr O<|I.y O (Y.indexAddr underlying38 sizeOf121 O O ((hok1.ages.hd.sl I).ne (Bi Ag9 (by decide) (by omega))) (by omega))<|?_; refine I.y O (Y.loadSlA isAgg121 sizeOf121 O hok1.ages.hd (Bo Ag9 stp.ages k2 hk2) O)<|Ow O (X.allocA I zeroValue121 fun p15 w15 I => Ow O (X.storeS I 0 sizeOf121 O O O O O (lZ O) O O fun _ I => Od O<|Wq O<|W.drawn O (by kernel_rfl) (Ctx _ _ (_) (_)) [] (.op 0 0 (.op 1 0 (.op 2 0 (.op 3 0 (.op 4 0 (.op 5 0 (.op 6 0 (.op 7 0 (.op 8 0 .nil))))))))) O (by kernel_rfl) I.drew.ctx<|?_)); replace I := I.drew; generalize World.drew _ = wd at I ⊢; refine I.zf Bb2 O O<|I.z O (Y.loadA 0 isAgg77 sizeOf77 O O O O)<|I.zu O O<|I.zp O O<|I.zt O O<|I.zf Kr O O<|I.z O (Y.loadCell isAgg3 O (((((((hru1.cons _).cons _).cons _).cons _).cons _).cons _).cons _) ((C4 D1 us ui 0 hlt (by decide)).trans O))<|?_; refine I.z O (Hr O)<|Drw.yb O O O I.ctx (Y.eq2 P1 P0 O O) (fun b111 hb111 => Dd<|?_); cases b111
         ·replace hb111 := dF hb111; refine Wu O O<|Wk O<|Wr O<|I.j O O O (by omega)<|I.u O O<|Od O<|?_; have e2 := (Qo p us[ui].who stp.ages k k2 hk2).trans (if_neg hb111); exact ⟨k2 + 1, ⟨O, congrArg (Value.int .i64) e2.symm, trivial⟩, ⟨O, O, O, O, O, O, O, O, O, trivial⟩, ⟨by omega, (I.dr 1)⟩, by omega⟩
         ·replace hb111 := dT hb111; refine Wt O O<|Wr O<|I.f Bb3 O O<|I.l 0 O O O O<|I.a O O<|Od O<|Wr O<|I.j O O O (by omega)<|I.u O O<|Od O<|?_; have e2 := (Qo p us[ui].who stp.ages k k2 hk2).trans (if_pos hb111); exact ⟨k2 + 1, ⟨O, congrArg (Value.int .i64) e2.symm, trivial⟩, ⟨O, O, O, O, O, O, O, O, O, trivial⟩, ⟨by omega, (I.dr 1)⟩, by omega⟩
    ·replace hb48 := dT hb48; refine Wt O O<|Wk O<|Wq O<|Wb O<|Wq O<|?_; have hk1 : k1 < stp.reads.length := by omega
     refine Wr O<|I.y O (Y.indexAddr underlying37 sizeOf43 O O ((hok.reads.hd.sl I).ne (Bi Ak6 (by decide) (by omega))) (by omega))<|?_; refine I.y O (Y.loadSlA isAgg43 sizeOf43 O hok.reads.hd (Bo Ak6 stp.reads k1 hk1) O)<|Ow O (X.allocA I zeroValue43 fun p11 w11 I => Ow O (X.storeS I 0 sizeOf43 O O O O O (lZ O) O O fun _ I => Od O<|Wq O<|?_)); refine W.cut [(0, .pointer _), (1, .pointer _), (5, .pointer _), (6, .pointer _), (7, .pointer _), (11, .pointer _), (45, .slice _ _ _), (46, .int _ _), (47, .int _ _)] (fun _ : Unit => []) (fun _ w => St w0 F0 w (Aa p11 (rdC stp.reads[k1]) 43 :: Aa p7 (Fp (rs1 us[ui].who (Dx p us[ui].who stp.ticks (stp.reads.take k1)) stp.reads[k1])) 99 :: Aa p6 (Fp (Tg 0)) 99 :: Aa p5 (Kc stp) 40 :: Aa wb (wC p (time) (.slice (some ⟨ub, 0, none⟩) us.length uc) (.slice LA nl lc)) 86 :: QR us[ui].lb 0 (qs) :: L) G) ⟨O, O, O, O, O, O, O, O, O, trivial⟩ ?_ ?_
     rotate_left
     ·clear I; rintro _ j w11 I; refine Wq O<|W.drawn O (by kernel_rfl) (Ctx _ _ (_) (_)) [] (.op 0 0 (.op 1 0 (.op 2 0 (.op 3 0 (.op 4 0 (.op 5 0 (.op 6 0 (.op 7 0 (.op 8 0 (.op 9 0 (.op 10 0 .nil))))))))))) O (by kernel_rfl) I.drew.ctx<|?_; replace I := I.drew; generalize World.drew _ = wd at I ⊢; refine I.zf Ax6 O O<|I.zl 0 O O O O<|I.zp O O<|I.zt O O<|I.zf Kr O O<|I.z O (Y.loadCell isAgg3 O ((((((hru.cons _).cons _).cons _).cons _).cons _).cons _) ((C4 D1 us ui 0 hlt (by decide)).trans O))<|?_; refine Drw.yb O O O I.ctx (Y.eql O O) (fun b72 hb72 => I.zb O O<|?_); cases b72
      ·replace hb72 := dF hb72; refine I.o O<|I.o O<|I.zk O O O<|Dd<|Wu O O<|Wk O<|Wr O<|I.j O O O (by omega)<|I.u O O<|Od O<|?_; have e2 := (Oa p us[ui].who stp.ticks stp.reads k1 hk1).trans (if_neg (fun h => hb72 h.1)); exact ⟨k1 + 1, ⟨O, trivial⟩, ⟨O, O, O, O, O, O, O, trivial⟩, ⟨by omega, by rw [e2]; exact (I.dr 1)⟩, by omega⟩
      ·replace hb72 := dT hb72; refine I.zf Bk5 O O<|Drw.yb O O O I.ctx (Y.cast (Y.load 0 isAgg4 O O O) (E5 _)) (fun b75 hb75 => I.zk O O O<|Dd<|?_); cases b75
       ·replace hb75 := dF hb75; refine Wu O O<|Wk O<|Wr O<|I.j O O O (by omega)<|I.u O O<|Od O<|?_; have e2 := (Oa p us[ui].who stp.ticks stp.reads k1 hk1).trans (if_neg (fun h => hb75 h.2)); exact ⟨k1 + 1, ⟨O, trivial⟩, ⟨O, O, O, O, O, O, O, trivial⟩, ⟨by omega, by rw [e2]; exact (I.dr 1)⟩, by omega⟩
       ·replace hb75 := dT hb75; refine Wt O O ?_; replace I := I.up_1; refine I.dw 1 [] (T0 [0,1,2] (.op 3 1 (.op 4 0 (.op 5 1 .nil)))) O (by kernel_rfl) O (by kernel_rfl) fun wd I => ?_; refine Dq O (I.cx 1) (Y.fieldAddr Bk6 O)<|Dq O (I.cx 1) (Y.load 0 isAgg41 O O O)<|Dq O (I.cx 1) (Y.fieldAddr Axq O)<|Dw O (X.storeV I 0 (.bool _) sizeOf4 O O O O (lZ O) O O fun _ I => ⟨(I.cx 1), Dq O (I.cx 1) (Y.fieldAddr Axx O)<|Dw O (X.storeV I 0 (.slice _ _ _) sizeOf41 O O O O (lZ O) O O fun _ I => ⟨(I.cx 1), Dd<|Wr O<|I.j O O O (by omega)<|I.u O O<|Od O<|?_⟩)⟩); have e2 := (Oa p us[ui].who stp.ticks stp.reads k1 hk1).trans (if_pos ⟨hb72, hb75⟩); exact ⟨k1 + 1, ⟨O, trivial⟩, ⟨O, O, O, O, O, O, O, trivial⟩, ⟨by omega, by rw [e2]; exact (I.sub (.cons_cons _ (.cons _ (.cons_cons _ (.cons_cons _ (.cons_cons _ (.cons_cons _ (.refl _))))))))⟩, by omega⟩
     refine Wq O<|W.drawn O (by kernel_rfl) (Ctx _ _ (_) (_)) [] (.op 0 0 (.op 1 0 (.op 2 0 (.op 3 0 (.op 4 0 (.op 5 0 (.op 6 0 (.op 7 0 (.op 8 0 (.op 9 0 (.op 10 0 .nil))))))))))) O (by kernel_rfl) I.drew.ctx<|?_; replace I := I.drew; generalize World.drew _ = wd at I ⊢; refine I.zf Ax6 O O<|I.zl 0 O O O O<|I.zp O O<|I.zt O O<|I.zf Kr O O<|I.z O (Y.loadCell isAgg3 O ((((((hru.cons _).cons _).cons _).cons _).cons _).cons _) ((C4 D1 us ui 0 hlt (by decide)).trans O))<|?_; refine Drw.yb O O O I.ctx (Y.eql O O) (fun b57 hb57 => I.zb O O<|?_); cases b57
     ·replace hb57 := dF hb57; refine I.o O<|I.o O<|I.zk O O O<|Dd<|Wu O O<|Wk O<|?_; have hq : rs1 us[ui].who (Dx p us[ui].who stp.ticks (stp.reads.take k1)) stp.reads[k1] = Dx p us[ui].who stp.ticks (stp.reads.take k1) := if_neg (fun h => hb57 h.1); exact ⟨(), trivial, ⟨O, O, O, O, O, O, O, O, O, trivial⟩, by rw [hq]; exact I⟩
     ·replace hb57 := dT hb57; refine I.zf Bk3 O O<|Drw.yb O O O I.ctx (Y.cast (Y.load 0 isAgg4 O O O) (E5 _)) (fun b60 hb60 => I.zk O O O<|Dd<|?_); cases b60
      ·replace hb60 := dF hb60; refine Wu O O<|Wk O<|?_; have hq : rs1 us[ui].who (Dx p us[ui].who stp.ticks (stp.reads.take k1)) stp.reads[k1] = Dx p us[ui].who stp.ticks (stp.reads.take k1) := if_neg (fun h => hb60 h.2); exact ⟨(), trivial, ⟨O, O, O, O, O, O, O, O, O, trivial⟩, by rw [hq]; exact I⟩
      ·replace hb60 := dT hb60; refine Wt O O ?_; replace I := I.up_1; refine I.dw 1 [] (T0 [0,1,2] (.op 3 1 (.op 4 0 (.op 5 1 .nil)))) O (by kernel_rfl) O (by kernel_rfl) fun wd I => ?_; refine Dq O (I.cx 1) (Y.fieldAddr Bk4 O)<|Dq O (I.cx 1) (Y.load 0 isAgg3 O O O)<|Dq O (I.cx 1) (Y.fieldAddr Ax8 O)<|Dw O (X.storeV I 0 (.bool _) sizeOf4 O O O O (lZ O) O O fun _ I => ⟨(I.cx 1), Dq O (I.cx 1) (Y.fieldAddr Ax9 O)<|Dw O (X.storeV I 0 (.int _ _) sizeOf3 O O O O (lZ O) O O fun _ I => ⟨(I.cx 1), Dd<|?_⟩)⟩); have hq : rs1 us[ui].who (Dx p us[ui].who stp.ticks (stp.reads.take k1)) stp.reads[k1] = { Dx p us[ui].who stp.ticks (stp.reads.take k1) with ref := true, reading := stp.reads[k1].reading } := if_pos ⟨hb57, hb60⟩; exact ⟨(), trivial, ⟨O, O, O, O, O, O, O, O, O, trivial⟩, by rw [hq]; exact I.swap⟩
  ·replace hb30 := dT hb30; refine Wt O O<|Wk O<|Wq O<|Wb O<|Wq O<|?_; have hk0 : k0 < stp.ticks.length := by omega
   refine Wr O<|I.y O (Y.indexAddr underlying36 sizeOf119 O O ((hok.ticks.hd.sl I).ne (Bi Cc (by decide) (by omega))) (by omega))<|?_; refine I.y O (Y.loadSlA isAgg119 sizeOf119 O hok.ticks.hd (Bo Cc stp.ticks k0 hk0) O)<|Ow O (X.allocA I zeroValue119 fun p9 w9 I => Ow O (X.storeS I 0 sizeOf119 O O O O O (lZ O) O O fun _ I => Od O<|Wq O<|W.drawn O (by kernel_rfl) (Ctx _ _ (_) (_)) [] (.op 0 0 (.op 1 0 (.op 2 0 (.op 3 0 (.op 4 0 (.op 5 0 (.op 6 0 .nil))))))) O (by kernel_rfl) I.drew.ctx<|?_)); replace I := I.drew; generalize World.drew _ = wd at I ⊢; refine I.zf Bb0 O O<|I.zl 0 O O O O<|I.zp O O<|I.zt O O<|I.zf Kr O O<|I.z O (Y.loadCell isAgg3 O ((((((hru.cons _).cons _).cons _).cons _).cons _).cons _) ((C4 D1 us ui 0 hlt (by decide)).trans O))<|?_; refine Drw.yb O O O I.ctx (Y.eql O O) (fun b39 hb39 => Dd<|?_); cases b39
   ·replace hb39 := dF hb39; refine Wu O O<|Wk O<|Wr O<|I.j O O O (by omega)<|I.u O O<|Od O<|?_; have e2 := (Pi p us[ui].who stp.ticks k0 hk0).trans (if_neg hb39); exact ⟨k0 + 1, ⟨O, trivial⟩, ⟨O, O, O, O, O, O, O, trivial⟩, ⟨by omega, by rw [e2]; exact (I.dr 1)⟩, by omega⟩
   ·replace hb39 := dT hb39; refine Wt O O<|Wr O<|I.f Bb1 O O<|I.l 0 O O O O<|I.f Q8 O O<|Ow O (X.storeV I 1 (.int _ _) sizeOf3 O O O O (lZ O) O O fun _ I => Od O<|Wr O<|I.j O O O (by omega)<|I.u O O<|Od O<|?_); have e2 := (Pi p us[ui].who stp.ticks k0 hk0).trans (if_pos hb39); exact ⟨k0 + 1, ⟨O, trivial⟩, ⟨O, O, O, O, O, O, O, trivial⟩, ⟨by omega, by rw [e2]; exact (I.dr 1)⟩, by omega⟩
end
section
open Tryz Go.RowKit YtaanjifekgfemaaGreat.K YtaanjifekgfemaaGreat.W YtaanjifekgfemaaGreat.LN
def UM.setQs (m : UM) (q : Qs) : UM := { m with u := { m.u with qs := q } }
theorem Nm (m : UM) (q : Qs) : (m.setQs q).un = m.un := rfl
theorem Mj (p : Par) (m : UM) (q : Qs) : (m.setQs q).fres p = m.fres p := rfl
def Ai6 (us : List Un) (to : Int) : Nat := (Di (isU to) us).toNat
def R0 (ms : List UM) (i : Nat) (f : UM → UM) : List UM := match ms[i]? with
  | some m => ms.set i (f m)
  | none => ms
def Je (us : List Un) (ms : List UM) (who : Int) (text : ByteArray) (to : Int) : List UM := R0 ms (Ai6 us to) fun m => m.setQs (D4 m.u.qs who text)
def Cm (who : Int) (frame : ByteArray) (l : Int × Int) (lies : List Li) : ByteArray := lies.foldl (fun t x => if (x.from_ = l.1 ∧ x.to = l.2) ∧ who < 16 then x.text else t) frame
theorem K9 (who : Int) (frame : ByteArray) (l : Int × Int) (lies : List Li) (k : Nat) (h : k < lies.length) : Cm who frame l (lies.take (k + 1)) = if (lies[k].from_ = l.1 ∧ lies[k].to = l.2) ∧ who < 16 then lies[k].text else Cm who frame l (lies.take k) := by
 unfold Cm; rw [List.take_succ_eq_append_getElem h, List.foldl_append]; rfl
def Js (us : List Un) (who : Int) (frame : ByteArray) (s : Stp) (ms : List UM) (l : Int × Int) : List UM :=
  if l.1 ≠ who ∨ l ∈ s.lost then ms else Je us ms who (Cm who frame l s.lies) l.2
def Fi (us : List Un) (who : Int) (frame : ByteArray) (s : Stp) (ms : List UM) (links : List (Int × Int)) : List UM := links.foldl (Js us who frame s) ms
theorem Mi (us : List Un) (who : Int) (frame : ByteArray) (s : Stp) (ms : List UM) (l : List (Int × Int)) (k : Nat) (h : k < l.length) : Fi us who frame s ms (l.take (k + 1)) = Js us who frame s (Fi us who frame s ms (l.take k)) l[k] := by
 unfold Fi; rw [List.take_succ_eq_append_getElem h, List.foldl_append]; rfl
theorem Aq7 {β : Type} (g : UM → β) {ms : List UM} (i : Nat) {f : UM → UM} (h : ∀ m, g (f m) = g m) : (R0 ms i f).map g = ms.map g := by
  unfold R0
  cases hm : ms[i]? with
  | none => rfl
  | some m =>
    dsimp only; rw [List.map_set, h]; obtain ⟨hi, rfl⟩ := List.getElem?_eq_some_iff.1 hm; apply List.ext_getElem
    · simp
    · intro j h1 h2; rw [List.getElem_set]; split
      · rename_i e; subst e; simp
      · rfl
theorem Ae3 {β : Type} (g : UM → β) (h : ∀ m q, g (m.setQs q) = g m) (us : List Un) (ms : List UM) (who : Int) (text : ByteArray) (to : Int) : (Je us ms who text to).map g = ms.map g := Aq7 g _ fun m => h m _
theorem Ur {β : Type} (g : UM → β) (h : ∀ m q, g (m.setQs q) = g m) (us : List Un) (who : Int) (frame : ByteArray) (s : Stp) (ms : List UM) (links : List (Int × Int)) : (Fi us who frame s ms links).map g = ms.map g := by
  unfold Fi
  induction links generalizing ms with
  | nil => rfl
  | cons l ls ih =>
    rw [List.foldl_cons, ih]; unfold Js; split
    · rfl
    · exact Ae3 g h _ _ _ _ _
theorem A11 {ms : List UM} {i : Nat} {m : UM} (h : ms[i]? = some m) (f : UM → UM) : R0 ms i f = ms.set i (f m) := by unfold R0; rw [h]
def Ei (m : M) : ByteArray := (An9 m.kind m.from_ m.slo m.shi m.held m.hops m.good m.ref m.elo m.ehi m.pulse m.time m.num m.tab).1
def MIn (m : M) : Prop := Au6 m.kind m.from_ m.slo m.shi m.held m.hops m.elo m.ehi m.pulse m.time m.num m.tab
def Al3 (us : List Un) (who : Int) (m : M) (s : Stp) (ms : List UM) (links : List (Int × Int)) : List UM := Fi us who (Ei m) s ms links
def B4 (us : List Un) (links : List (Int × Int)) : Prop := ∀ l ∈ links, ∃ i : Nat, Di (isU l.2) us = (i : Int)
end
section
open Tryz Go.RowKit YtaanjifekgfemaaGreat.K YtaanjifekgfemaaGreat.W YtaanjifekgfemaaGreat.LN
attribute [local irreducible] Bg Ak Bb sub neg mag Da mul Dy
theorem Bk0 : FA 40 3 3 := fun _ _ => by simp [Instr.fieldAt, Instr.sureAddr, go_sem]
theorem Ab7 : FA 40 4 4 := fun _ _ => by simp [Instr.fieldAt, Instr.sureAddr, go_sem]
theorem Ax7 : FA 79 0 0 := fun _ _ => by simp [Instr.fieldAt, Instr.sureAddr, go_sem]
theorem Abx : FA 79 1 2 := fun _ _ => by simp [Instr.fieldAt, Instr.sureAddr, go_sem]
theorem Bv2 : CF 61 := fun _ _ => by simp [go_sem]
set_option maxHeartbeats 4000000 in
theorem A5q (wb : Nat) (p : Par) (time : Int) (ub : Nat) (us : List Un) (uc : Nat) (LA : Option Addr) (lc : Nat) (links : List (Int × Int)) (hll : links.length ≤ 1000000) (hul : us.length ≤ 1000000) (ms : List UM) (hus : unL ms = us) (hlk : B4 us links) (who : Int) (m : M) (A : Option Addr) (cap : Nat) (hin : MIn m) (stp : Stp) (w0 w : World) (F0 : List Nat) (L G : List Res) (I : St w0 F0 w (Aa wb (wC p (time) (.slice (some ⟨ub, 0, none⟩) us.length uc) (.slice LA links.length lc)) 86 :: Af (.slice (some ⟨ub, 0, none⟩) us.length uc) 96 4 us.length (Ae unC (us)) :: Af (.slice LA (links).length lc) 77 2 (links).length (Ae Aq (links)) :: ((ms).map UM.lres ++ L)) G) (hrm : Rds [] G (.slice A (m.tab).length cap) (m.tab).length (lcs (m.tab))) (hok : stp.Ok G) :
  Calls Tryz.prog 33 #[.pointer (some ⟨wb, 0, none⟩), .int .i64 who, .agg #[.int .i64 m.kind, .int .i64 m.from_, .int .i64 m.slo, .int .i64 m.shi, .int .i64 m.held, .int .i64 m.hops, .bool m.good, .bool m.ref, .int .i64 m.elo, .int .i64 m.ehi, .int .i64 m.pulse, .int .i64 m.time, .int .i64 m.num, .slice A m.tab.length cap], .agg (Kc stp).toArray] w fun e w' => e = .returned (.tuple #[]) ∧ St w0 F0 w' (Aa wb (wC p (time) (.slice (some ⟨ub, 0, none⟩) us.length uc) (.slice LA links.length lc)) 86 :: Af (.slice (some ⟨ub, 0, none⟩) us.length uc) 96 4 us.length (Ae unC (us)) :: Af (.slice LA (links).length lc) 77 2 (links).length (Ae Aq (links)) :: ((Al3 us who m stp ms links).map UM.lres ++ L)) G := by
 obtain ⟨hl0, hl1, hl2, hl3, hl4, hl5, hl6, hl7⟩ := hok.lens; refine W.func func33 O ntmps33 O<|Wh O<|Ow O (X.boxA I O fun p6 w6 I => Ow O (X.boxA I O fun p7 w7 I => Ds O O<|I.y O (Y.loadA 1 isAgg103 sizeOf103 O O O O)<|Ow O (X.ret Bv2 (Z2 m.kind m.from_ m.slo m.shi m.held m.hops m.good m.ref m.elo m.ehi m.pulse m.time m.num m.tab A cap _ _ _ _ _ I hrm.hd hin) O fun _ I => I.y O (Y.moveU O)<|I.e O O O<|I.e O O O<|I.y O (Y.assignT O)<|I.a O O<|Ds O O<|I.p O O<|I.t O O<|I.f N3 O O<|I.y O (Y.load 2 isAgg25 O O O)<|I.y O (Y.lenS underlying25 O)<|I.u O O<|Od O<|Wb O<|?_))); refine W.loop (γ := Nat) [(0, .pointer _), (1, .int _ _), (7, .pointer _), (8, .string _), (23, .slice _ _ _), (24, .int _ _)] (fun k => [(25, .int .i64 (k : Int))]) (fun k w => k ≤ links.length ∧ St w0 F0 w (Aa p7 (Kc stp) 40 :: Aa p6 (Pq m A cap) 103 :: Aa wb (wC p (time) (.slice (some ⟨ub, 0, none⟩) us.length uc) (.slice LA links.length lc)) 86 :: Af (.slice (some ⟨ub, 0, none⟩) us.length uc) 96 4 us.length (Ae unC (us)) :: Af (.slice LA (links).length lc) 77 2 (links).length (Ae Aq (links)) :: ((Fi us who (Ei m) stp ms (links.take k)).map UM.lres ++ L)) G) (fun k => links.length - k) (0) O ⟨O, O, O, O, O, O, trivial⟩ ?_ ?_ ?_
 ·exact ⟨O, trivial⟩
 ·exact ⟨by omega, I⟩
 ·clear I; rintro k j w3 ⟨hk, I⟩; refine Wh O<|I.v O O O (fun b26 hb26 => Od O<|Wq O<|?_); cases b26
  ·replace hb26 := dF hb26; refine Wu O O<|W.exit O<|⟨_, Ac.none results33, ?_⟩; obtain rfl : k = links.length := by omega
   have e1 : links.take links.length = links := List.take_length; rw [e1] at I; exact ⟨O, (I.dr 2)⟩
  ·replace hb26 := dT hb26; refine Wt O O<|Wk O<|Wq O<|Wb O<|Wq O<|?_; have hk1 : k < links.length := by omega
   refine Wr O<|I.y O (Y.indexAddr underlying25 sizeOf77 O O ((Rds.sl (Rds.rowL 4 (by rfl)) I).ne (Bi Cc (by decide) (by omega))) (by omega))<|?_; refine I.y O (Y.loadSlA isAgg77 sizeOf77 O (Rds.rowL 4 O) (Bo Cc links k hk1) O)<|Ow O (X.allocA I zeroValue77 fun p11 w11 I => Ow O (X.storeS I 0 sizeOf77 O O O O O (lZ O) O O fun _ I => Ds O O<|I.y O (Y.moveT O)<|I.y O (Y.assignT O)<|Od O<|Wq O<|Wh O<|I.f Ma O O<|I.l 0 O O O O<|I.u O O<|I.yb O (Y.neq O O) (fun b33 hb33 => I.b O O<|?_))); cases b33
   ·replace hb33 := dF hb33; refine I.f Bk0 O O<|I.y O (Y.load 1 isAgg25 O O O)<|I.y O (Y.loadA 0 isAgg77 sizeOf77 O O O O)<|Ow O (X.retB Brz (M1 stp.lost (by omega) _ _ links[k] _ _ _ _ _ I hok.lost.hd) O fun b38 w38 hb38 I => I.k O O O<|Od O<|?_); cases b38
    ·replace hb38 := dF hb38; refine Wu O O<|Wk O<|Wq O<|Wh O<|I.f Ab7 O O<|I.y O (Y.load 1 isAgg27 O O O)<|I.y O (Y.lenS underlying27 O)<|I.u O O<|Od O<|Wb O<|?_; refine W.loop (γ := Nat) [(0, .pointer _), (1, .int _ _), (7, .pointer _), (8, .string _), (11, .pointer _), (23, .slice _ _ _), (24, .int _ _), (25, .int _ _), (41, .slice _ _ _), (42, .int _ _)] (fun k2 => [(43, .int .i64 (k2 : Int)), (12, .string (Cm who (Ei m) links[k] (stp.lies.take k2)))]) (fun k2 w => k2 ≤ stp.lies.length ∧ St w0 F0 w (Aa p11 (Aq links[k]) 77 :: Aa p7 (Kc stp) 40 :: Aa p6 (Pq m A cap) 103 :: Aa wb (wC p (time) (.slice (some ⟨ub, 0, none⟩) us.length uc) (.slice LA links.length lc)) 86 :: Af (.slice (some ⟨ub, 0, none⟩) us.length uc) 96 4 us.length (Ae unC (us)) :: Af (.slice LA (links).length lc) 77 2 (links).length (Ae Aq (links)) :: ((Fi us who (Ei m) stp ms (links.take k)).map UM.lres ++ L)) G) (fun k2 => stp.lies.length - k2) (0) O ⟨O, O, O, O, O, O, O, O, O, O, trivial⟩ ?_ ?_ ?_
     ·exact ⟨O, O, trivial⟩
     ·exact ⟨by omega, I⟩
     ·clear I; rintro k2 j w8 ⟨hk2', I⟩; refine Wh O<|I.v O O O (fun b44 hb44 => Od O<|Wq O<|?_); cases b44
      ·replace hb44 := dF hb44; refine Wu O O<|W.exit O<|?_; obtain rfl : k2 = stp.lies.length := by omega
       obtain ⟨i, hi⟩ := hlk _ (List.getElem_mem hk1); have hlt := Ayz hi; have hunk : unL (Fi us who (Ei m) stp ms (links.take k)) = us := (Ur UM.un Nm _ _ _ _ _ _).trans hus
       obtain ⟨mi, hmi⟩ : ∃ mi, (Fi us who (Ei m) stp ms (links.take k))[i]? = some mi := by
        have h1 := congrArg List.length hunk; rw [unL, List.length_map] at h1; exact ⟨_, List.getElem?_eq_getElem (by omega)⟩
       have hlb : us[i].lb = mi.lb := by
        have h1 : us[i]? = some mi.un := by rw [← hunk]; unfold unL; rw [List.getElem?_map, hmi]; rfl
        rw [List.getElem?_eq_getElem hlt] at h1; injection h1 with h1; rw [h1]; rfl
       refine Wr O<|I.p O O<|I.f Kq O O<|I.l 0 O O O O<|Ow O (X.ret Xi (dn3 (Qf wb p time ub us uc LA links.length lc links[k].2 hul i hi _ _ _ _ _ I.up_3 (Rds.rowL 3 O))) O fun _ I => I.t O O<|I.f Q7 O O<|I.y O (Y.cast (Y.loadCell isAgg94 O (Rds.rowL 4 O) ((C4 D1 us i 3 hlt (by decide)).trans O)) (congrArg (fun z => Value.pointer (some ⟨z, 0, none⟩)) hlb))<|?_); refine I.u O O<|I.y O (Y.moveT O)<|Oc O Brq O ?_; refine Ab (W7 mi.lb 0 mi.u.qs who (Cm who (Ei m) links[k] (stp.lies.take stp.lies.length)) _ _ _ _ _ (I.foc (pre := [_, _, _, _, _, _]) (mid := (Fi us who (Ei m) stp ms (links.take k)).map UM.lres) (post := L) (i := i) (by rw [List.getElem?_map, hmi]; rfl)) (by decide)) rfl ?_; clear I; rintro e w67 ⟨rfl, I⟩; replace I := St.unfoc (pre := [_, _, _, _, _, _]) (mid := (Fi us who (Ei m) stp ms (links.take k)).map UM.lres) (post := L) (i := i) (r := mi.lres) I (by rw [List.getElem?_map, hmi]; rfl); refine ⟨_, O, ?_⟩; refine Od O<|Wr O<|I.j O O O (by omega)<|I.u O O<|Od O<|?_; have e0 : stp.lies.take stp.lies.length = stp.lies := List.take_length; have hst2 := (I.dr 1); rw [e0] at hst2; have e1 : Ai6 us links[k].2 = i := by unfold Ai6; rw [hi]; rfl
       have e2 : Fi us who (Ei m) stp ms (links.take (k + 1)) = Je us (Fi us who (Ei m) stp ms (links.take k)) who (Cm who (Ei m) links[k] stp.lies) links[k].2 := (Mi us who (Ei m) stp ms links k hk1).trans (if_neg (fun h => h.elim hb33 hb38)); have e3 : Je us (Fi us who (Ei m) stp ms (links.take k)) who (Cm who (Ei m) links[k] stp.lies) links[k].2 = (Fi us who (Ei m) stp ms (links.take k)).set i (mi.setQs (D4 mi.u.qs who (Cm who (Ei m) links[k] stp.lies))) := by unfold Je; rw [e1]; exact A11 hmi _
       refine ⟨k + 1, ⟨O, trivial⟩, ⟨O, O, O, O, O, O, trivial⟩, ⟨by omega, ?_⟩, by omega⟩; rw [e2, e3, List.map_set]; exact hst2
      ·replace hb44 := dT hb44; refine Wt O O<|Wk O<|Wq O<|Wb O<|Wq O<|?_; have hk2 : k2 < stp.lies.length := by omega
       refine Wr O<|I.y O (Y.indexAddr underlying27 sizeOf79 O O ((hok.lies.hd.sl I).ne (Bi Lh (by decide) (by omega))) (by omega))<|?_; refine I.y O (Y.loadSlA isAgg79 sizeOf79 O hok.lies.hd (Bo Lh stp.lies k2 hk2) O)<|Ow O (X.allocA I zeroValue79 fun p14 w14 I => Ow O (X.storeS I 0 sizeOf79 O O O O O (lZ O) O O fun _ I => Ds O O<|I.f Ax7 O O<|I.y O (Y.loadA 0 isAgg77 sizeOf77 O O O O)<|I.y O (Y.loadA 1 isAgg77 sizeOf77 O O O O)<|I.yb O (Y.eq2 P1 P0 O O) (fun b50 hb50 => I.b O O<|?_))); cases b50
       ·replace hb50 := dF hb50; refine On O<|On O<|I.k O O O<|Od O<|Wu O O<|Wk O<|Wr O<|I.j O O O (by omega)<|I.u O O<|Od O<|?_; have e2 := (K9 who (Ei m) links[k] stp.lies k2 hk2).trans (if_neg (fun h => hb50 h.1)); exact ⟨k2 + 1, ⟨O, congrArg Value.string e2.symm, trivial⟩, ⟨O, O, O, O, O, O, O, O, O, O, trivial⟩, ⟨by omega, (I.dr 1)⟩, by omega⟩
       ·replace hb50 := dT hb50; refine I.u O O<|I.v O O O (fun b53 hb53 => I.k O O O<|Od O<|?_); cases b53
        ·replace hb53 := dF hb53; refine Wu O O<|Wk O<|Wr O<|I.j O O O (by omega)<|I.u O O<|Od O<|?_; have e2 := (K9 who (Ei m) links[k] stp.lies k2 hk2).trans (if_neg (fun h => hb53 h.2)); exact ⟨k2 + 1, ⟨O, congrArg Value.string e2.symm, trivial⟩, ⟨O, O, O, O, O, O, O, O, O, O, trivial⟩, ⟨by omega, (I.dr 1)⟩, by omega⟩
        ·replace hb53 := dT hb53; refine Wt O O<|Wr O<|I.f Abx O O<|I.y O (Y.load 0 isAgg9 O O O)<|I.y O (Y.assignT O)<|Od O<|Wr O<|I.j O O O (by omega)<|I.u O O<|Od O<|?_; have e2 := (K9 who (Ei m) links[k] stp.lies k2 hk2).trans (if_pos ⟨hb50, hb53⟩); exact ⟨k2 + 1, ⟨O, congrArg Value.string e2.symm, trivial⟩, ⟨O, O, O, O, O, O, O, O, O, O, trivial⟩, ⟨by omega, (I.dr 1)⟩, by omega⟩
    ·replace hb38 := dT hb38; refine Wt O O<|W.exit O<|Wr O<|I.j O O O (by omega)<|I.u O O<|Od O<|?_; have e2 := (Mi us who (Ei m) stp ms links k hk1).trans (if_pos (.inr hb38)); exact ⟨k + 1, ⟨O, trivial⟩, ⟨O, O, O, O, O, O, trivial⟩, ⟨by omega, by rw [e2]; exact (I.dr 1)⟩, by omega⟩
   ·replace hb33 := dT hb33; refine On O<|On O<|On O<|On O<|I.k O O O<|Od O<|Wt O O<|W.exit O<|Wr O<|I.j O O O (by omega)<|I.u O O<|Od O<|?_; have e2 := (Mi us who (Ei m) stp ms links k hk1).trans (if_pos (.inl hb33)); exact ⟨k + 1, ⟨O, trivial⟩, ⟨O, O, O, O, O, O, trivial⟩, ⟨by omega, by rw [e2]; exact (I.dr 1)⟩, by omega⟩
end
end Go.Proofs.YtaanjifekgfemaaGreat.Cl
