/- What the proof rests on, part 5. -/
import Derived.Test.YtaanjifekgfemaaGreatF4
set_option linter.unusedVariables false
set_option linter.unusedSimpArgs false
set_option linter.unusedSectionVars false
namespace Go.Proofs.YtaanjifekgfemaaGreat.K
section
open Tryz Go.RowKit
section
variable {P : Program} {n : Fr} {c : Code} {Q : Ez} {ρ : Env} {w0 w : World} {F0 : List Nat} {L G : List Res} {S : World → Prop} {ty t t' : TypeId} {x y z : Operand}
theorem Aq3 {α : Type} {c : α → List Value} {m : Nat} (hc : ∀ x, (c x).length = m) (hm : 0 < m) (x0 : α) (n : Nat) : (madeCells (c x0).toArray (n * m)).toList = Ae c (List.replicate n x0) := by
 apply List.ext_getElem?; intro j; have hl := Gi hc (List.replicate n x0); rw [List.length_replicate] at hl; rcases Nat.lt_or_ge j (n * m) with hj | hj
 ·have h1 : j / m < (List.replicate n x0).length := by rw [List.length_replicate]; exact Nat.div_lt_of_lt_mul (by rw [Nat.mul_comm]; exact hj)
  have h2 : j % m < m := Nat.mod_lt _ hm; have h3 := C4 hc (List.replicate n x0) (j / m) (j % m) h1 h2; have h4 : j / m * m + j % m = j := Nat.div_add_mod' j m; rw [h4] at h3; rw [h3]; have h5 : (List.replicate n x0)[j / m] = x0 := by simp
  rw [h5]; have h6 : j % m < (c x0).length := by rw [hc]; exact h2
  simp [madeCells, hj, hc]; rw [List.getElem?_eq_getElem h6]; rfl
 ·rw [List.getElem?_eq_none (l := Ae c (List.replicate n x0)) (by rw [hl]; exact hj)]; exact List.getElem?_eq_none (by simp [madeCells]; exact hj)
theorem X.makeS (I : St w0 F0 w L G) {e : TypeId} (ht : P.underlying t = some (.slice e)) {α : Type} (c : α → List Value) (x0 : α) {m bytes : Nat} (hinfo : (P.info? e).map (fun i => (i.zero, i.size, i.bytes)) = some (some (.agg (c x0).toArray), m, bytes)) (hc : ∀ x, (c x).length = m) (hm : Nat.blt 0 m = true) {n : Nat}
  (hx : ev ρ x = .int .i64 (n : Int)) (hy : ev ρ y = .int .i64 (n : Int)) (hb : bytes * n ≤ 281474976710656) (h63 : n ≤ 9223372036854775807) {K : Value → World → Prop}
  (k : ∀ b w', St w0 F0 w' (Aa b (Ae c (List.replicate n x0)) e :: L) G → K (.slice (some ⟨b, 0, none⟩) n n) w') : X P ρ w (.makeSlice t x y) ty K := by
 intro a ops Q o ho _ ha hw; obtain ⟨i, hi, hzz⟩ := Option.map_eq_some_iff.1 hinfo; simp only [Prod.mk.injEq] at hzz; obtain ⟨hz, hs, hbb⟩ := hzz
 have hb' : (i.bytes : Int) * (n : Int) ≤ 281474976710656 := by
  have h : ((i.bytes * n : Nat) : Int) ≤ 281474976710656 := by rw [hbb]; omega
  rwa [Int.natCast_mul] at h
 have hr := run_make (P := P) w t e i _ ht hi hz .i64 .i64 n n (by omega) (Int.le_refl _) hb' (by omega); simp only [Int.toNat_natCast, hs] at hr; refine wpl hw (v := .slice (some ⟨w.heap.size, 0, none⟩) n n) (w' := w.alloc (.cells (madeCells (Value.agg (c x0).toArray).cells (n * m)) e)) ?_ ⟨_, O, k _ _ ?_⟩
 ·rw [ha]; simp [execOp, ho, hx, hy, hr]
 ·refine I.alloc _ _ O ?_; have h1 := Ht w (Ae c (List.replicate n x0)) e
  have h2 : (Ae c (List.replicate n x0)).toArray = madeCells (Value.agg (c x0).toArray).cells (n * m) := by
   apply Array.ext'; rw [← Aq3 hc (by simpa [Nat.blt_eq] using hm)]; simp [Value.cells]
  rwa [h2] at h1
theorem St.focF2 {pre lan post : List Res} {mid : List (List Res)} {i : Nat} {r : List Res} (h : St w0 F0 w (pre ++ (lan ++ (mid.flatten ++ post))) G) (hi : mid[i]? = some r) : St w0 F0 w (r ++ (pre ++ (lan ++ ((mid.eraseIdx i).flatten ++ post)))) G := by
 rw [← List.append_assoc pre] at h ⊢; exact h.focF hi
theorem St.unfocF2 {pre lan post : List Res} {mid : List (List Res)} {i : Nat} {r r' : List Res} (h : St w0 F0 w (r' ++ (pre ++ (lan ++ ((mid.eraseIdx i).flatten ++ post)))) G) (hi : mid[i]? = some r) : St w0 F0 w (pre ++ (lan ++ ((mid.set i r').flatten ++ post))) G := by
 rw [← List.append_assoc pre] at h ⊢; exact h.unfocF hi
theorem St.lan {a b c : Res} {S M X : List Res} (h : St w0 F0 w (a :: b :: c :: (S ++ (M ++ X))) G) : St w0 F0 w (a :: b :: c :: (M ++ (S ++ X))) G :=
 h.perm ((((by
  rw [← List.append_assoc, ← List.append_assoc]
  exact List.perm_append_comm.append_right _ : (S ++ (M ++ X)).Perm (M ++ (S ++ X))).cons c).cons b).cons a)
end
end
end Go.Proofs.YtaanjifekgfemaaGreat.K
namespace Go.Proofs.YtaanjifekgfemaaGreat.Cl
section
open Tryz Go.RowKit YtaanjifekgfemaaGreat.K YtaanjifekgfemaaGreat.W YtaanjifekgfemaaGreat.LN
def Qh (p : Par) (u : PU) (i : Inp) (u' : PU) (msg : M) : Prop :=
  (u.who < 16 ∧ u'.s = Bm (Cx p u.who u.s i) ∧ u'.es = u.es ∧ msg = Ik p u.who u.s i) ∨
  (¬ u.who < 16 ∧ ∃ clock tab, Py p (Ad u.who u.es clock i.heard).out u.s tab ∧ u'.s = Bm (Ax p (Ad u.who u.es clock i.heard).out u.s i.ticks tab) ∧ u'.es = En 2 (Ad u.who u.es clock i.heard).es ∧ msg = P7 p u.who (Ad u.who u.es clock i.heard).out u.s i.ticks tab)
def O0 (p : Par) (s : Stp) (u u' : PU) (msg : M) : Prop :=
  u'.who = u.who ∧ u'.qs = qs0 ∧ ((u.who ∈ s.off ∧ u'.s = u.s ∧ u'.es = u.es ∧ msg = M0) ∨ (u.who ∉ s.off ∧ ∃ i, InpOf p s u.who u.qs i ∧ Qh p u i u' msg))
theorem O0.off {p : Par} {s : Stp} {u : PU} (h : u.who ∈ s.off) : O0 p s u { u with qs := qs0 } M0 := ⟨rfl, rfl, .inl ⟨h, rfl, rfl, rfl⟩⟩
def Ql (G : List Res) (h : Hd) : Prop := MIn h.m ∧ Rds [] G (.slice h.A h.m.tab.length h.cap) h.m.tab.length (lcs h.m.tab)
theorem Ql.mono {G G' : List Res} {h : Hd} (hm : Ql G h) (hG : ∀ r ∈ G, r ∈ G') : Ql G' h := ⟨hm.1, hm.2.moreG hG⟩
structure RunS (p : Par) (s : Stp) (us : List Un) (ms : List UM) (G : List Res) (k : Nat) (ms1 : List UM) (sd : List Hd) (G1 : List Res) : Prop where
  len : sd.length = ms.length
  done : ∀ j m m' h, ms[j]? = some m → ms1[j]? = some m' → sd[j]? = some h → j < k → O0 p s m.u m'.u h.m
  left : ∀ j, k ≤ j → ms1[j]? = ms[j]?
  left2 : ∀ j h, k ≤ j → sd[j]? = some h → h = Hd0
  un : unL ms1 = us
  ok : ∀ m ∈ ms1, m.Ok p G1
  msg : ∀ h ∈ sd, Ql G1 h
  more : ∀ r ∈ G, r ∈ G1
theorem Qe {ms : List UM} {us : List Un} (h : unL ms = us) : ms.length = us.length := by rw [← h]; unfold unL; rw [List.length_map]
theorem Ag1 {ms : List UM} {us : List Un} (h : unL ms = us) {k : Nat} {m : UM} (hm : ms[k]? = some m) : us[k]? = some m.un := by
 rw [← h]; unfold unL; rw [List.getElem?_map, hm]; rfl
theorem RunS.step {p : Par} {s : Stp} {us : List Un} {ms ms1 : List UM} {G G1 G2 : List Res} {k : Nat} {sd : List Hd} (h : RunS p s us ms G k ms1 sd G1) {m m' : UM} (hm : ms[k]? = some m) {h' : Hd} (hb : O0 p s m.u m'.u h'.m) (hu : m'.un = m.un) (hok : m'.Ok p G2) (hmsg : Ql G2 h') (hG : ∀ r ∈ G1, r ∈ G2) :
  RunS p s us ms G (k + 1) (ms1.set k m') (sd.set k h') G2 := by
 have hk1 : ms1[k]? = some m := (h.left k (Nat.le_refl _)).trans hm; have hlt1 : k < ms1.length := (List.getElem?_eq_some_iff.1 hk1).1; have hlt2 : k < sd.length := by rw [h.len]; exact (List.getElem?_eq_some_iff.1 hm).1
 refine ⟨by simp [h.len], ?_, ?_, ?_, ?_, ?_, ?_, fun r hr => hG r (h.more r hr)⟩
 ·intro j a a' b h1 h2 h3 hj
  by_cases e : j = k
  ·subst e; rw [List.getElem?_set_self hlt1] at h2; rw [List.getElem?_set_self hlt2] at h3; injection h2 with h2; injection h3 with h3; subst h2; subst h3; rw [hm] at h1; injection h1 with h1; subst h1; exact hb
  ·rw [List.getElem?_set_ne (Ne.symm e)] at h2 h3; exact h.done j a a' b h1 h2 h3 (by omega)
 ·intro j hj; rw [List.getElem?_set_ne (by omega)]; exact h.left j (by omega)
 ·intro j a hj ha; rw [List.getElem?_set_ne (by omega)] at ha; exact h.left2 j a (by omega) ha
 ·rw [← h.un]; unfold unL; rw [List.map_set, hu]; apply List.ext_getElem?
  intro j
  by_cases e : j = k
  ·subst e; rw [List.getElem?_set_self (by simpa using hlt1), List.getElem?_map, hk1]; rfl
  ·rw [List.getElem?_set_ne (Ne.symm e)]
 ·intro x hx; rcases List.mem_or_eq_of_mem_set hx with hx | rfl
  ·exact (h.ok x hx).mono hG
  ·exact hok
 ·intro x hx; rcases List.mem_or_eq_of_mem_set hx with hx | rfl
  ·exact (h.msg x hx).mono hG
  ·exact hmsg
theorem RunS.start {p : Par} {s : Stp} {us : List Un} {ms : List UM} {G : List Res} (hus : unL ms = us) (hok : ∀ m ∈ ms, m.Ok p G) (h0 : Ql G Hd0) : RunS p s us ms G 0 ms (List.replicate us.length Hd0) G :=
 ⟨by rw [List.length_replicate, Qe hus], fun j _ _ _ _ _ _ h => by omega, fun _ _ => rfl, fun j h _ hj => List.eq_of_mem_replicate (List.mem_of_getElem? hj), hus, hok, fun h hh => by rw [List.eq_of_mem_replicate hh]; exact h0, fun _ h => h⟩
theorem K7 {α : Type} {l : List α} {k : Nat} {x : α} (h : l[k]? = some x) : l.set k x = l := by
 obtain ⟨hk, rfl⟩ := List.getElem?_eq_some_iff.1 h; simp
theorem Rds.rowM {L G : List Res} {v : Value} {e : TypeId} {size m : Nat} {xs : List Value} (h : Af v e size m xs ∈ L) : Rds L G v m xs := by
 obtain ⟨j, hj⟩ := List.getElem?_of_mem h; exact Rds.rowL j hj
def Aaz (l : List (Int × Int)) (y : Int × Int) : List (Int × Int) := l.filter fun x => !decide (x = y)
def Bp (l : List (Int × Int)) (ys : List (Int × Int)) : List (Int × Int) := ys.foldl (C3 Aaz) l
def Ba (us : List Un) (ub : Nat) (l : List (Int × Int)) (ys : List (Int × Int)) : List (Int × Int) := ys.foldl (C3 (Fh us ub)) l
theorem Q4 (l : List (Int × Int)) (y : Int × Int) : (Aaz l y).length ≤ l.length := List.length_filter_le _ _
theorem Jm (us : List Un) (ub : Nat) (l : List (Int × Int)) (y : Int × Int) : (Fh us ub l y).length ≤ l.length + 1 := by unfold Fh; split <;> simp
theorem Tt {eff : List (Int × Int) → Int × Int → List (Int × Int)} (h : ∀ l y, (eff l y).length ≤ l.length + 1) (l : List (Int × Int)) (y : Int × Int) : (C3 eff l y).length ≤ l.length + 2 := by
 unfold C3; split
 ·have h1 := h l (16 + y.1, 16 + y.2); have h2 := h (eff l (16 + y.1, 16 + y.2)) (16 + y.2, 16 + y.1); omega
 ·omega
theorem S8 (l : List (Int × Int)) (y : Int × Int) : (C3 Aaz l y).length ≤ l.length := by
 unfold C3; split
 ·have h1 := Q4 l (16 + y.1, 16 + y.2); have h2 := Q4 (Aaz l (16 + y.1, 16 + y.2)) (16 + y.2, 16 + y.1); omega
 ·omega
theorem Tx (l : List (Int × Int)) (ys : List (Int × Int)) : (Bp l ys).length ≤ l.length := by
 unfold Bp
 induction ys generalizing l with
 | nil => exact Nat.le_refl _
 | cons y ys ih => exact Nat.le_trans (ih _) (S8 l y)
theorem Md (us : List Un) (ub : Nat) (l : List (Int × Int)) (ys : List (Int × Int)) : (Ba us ub l ys).length ≤ l.length + 2 * ys.length := by
  unfold Ba
  induction ys generalizing l with
  | nil => simp
  | cons y ys ih =>
    have h1 := ih (C3 (Fh us ub) l y); have h2 := Tt (Jm us ub) l y; simp only [List.foldl_cons, List.length_cons] at h1 ⊢; omega
theorem Hl {α β : Type} (f : β → α → β) (b : β) (l : List α) (k : Nat) (h : k < l.length) : (l.take (k + 1)).foldl f b = f ((l.take k).foldl f b) l[k] := by
 rw [List.take_succ_eq_append_getElem h, List.foldl_append]; rfl
theorem Ab0 (l ys : List (Int × Int)) (k : Nat) (h : k < ys.length) : Bp l (ys.take (k + 1)) = C3 Aaz (Bp l (ys.take k)) ys[k] := Hl _ _ _ _ h
theorem Pa (us : List Un) (ub : Nat) (l ys : List (Int × Int)) (k : Nat) (h : k < ys.length) : Ba us ub l (ys.take (k + 1)) = C3 (Fh us ub) (Ba us ub l (ys.take k)) ys[k] := Hl _ _ _ _ h
theorem Pc {us : List Un} {l : List (Int × Int)} (h : B4 us l) (y : Int × Int) : B4 us (Aaz l y) := fun x hx => h x (List.mem_filter.1 hx).1
theorem Fs {us : List Un} {ub : Nat} {l : List (Int × Int)} (h : B4 us l) (y : Int × Int) : B4 us (Fh us ub l y) := by
 unfold Fh; split
 ·rename_i hj; intro x hx; rcases List.mem_append.1 hx with hx | hx
  ·exact h x hx
  ·rw [List.mem_singleton] at hx; subst hx; have h1 := hj.2.2.1; unfold Gz at h1; split at h1
   ·exact absurd rfl h1
   ·exact ⟨(Di (isU x.2) us).toNat, by omega⟩
 ·exact h
theorem V7 {us : List Un} {eff : List (Int × Int) → Int × Int → List (Int × Int)} (he : ∀ l y, B4 us l → B4 us (eff l y)) {l : List (Int × Int)} (h : B4 us l) (y : Int × Int) : B4 us (C3 eff l y) := by
 unfold C3; split
 ·exact he _ _ (he _ _ h)
 ·exact h
theorem Fq {us : List Un} {eff : List (Int × Int) → Int × Int → List (Int × Int)} (he : ∀ l y, B4 us l → B4 us (eff l y)) {l : List (Int × Int)} (h : B4 us l) (ys : List (Int × Int)) : B4 us (ys.foldl (C3 eff) l) := by
 induction ys generalizing l with
 | nil => exact h
 | cons y ys ih => exact ih (V7 he h y)
def Hh (us : List Un) (s : Stp) (links : List (Int × Int)) (sd : List Hd) (ms : List UM) (j : Nat) : List UM := match us[j]?, sd[j]? with
  | some u, some h => if u.who ∈ s.off then ms else Al3 us u.who h.m s ms links
  | _, _ => ms
def Cp (us : List Un) (s : Stp) (links : List (Int × Int)) (sd : List Hd) (ms : List UM) (k : Nat) : List UM := (List.range k).foldl (Hh us s links sd) ms
theorem Fw (us : List Un) (s : Stp) (links : List (Int × Int)) (sd : List Hd) (ms : List UM) (k : Nat) : Cp us s links sd ms (k + 1) = Hh us s links sd (Cp us s links sd ms k) k := by
 unfold Cp; rw [List.range_succ, List.foldl_append]; rfl
theorem K6 {β : Type} (g : UM → β) (h : ∀ m q, g (m.setQs q) = g m) (us : List Un) (s : Stp) (links : List (Int × Int)) (sd : List Hd) (ms : List UM) (k : Nat) : (Cp us s links sd ms k).map g = ms.map g := by
  induction k with
  | zero => rfl
  | succ k ih =>
    rw [Fw, ← ih]; unfold Hh; split
    · split
      · rfl
      · exact Ur g h _ _ _ _ _ _
    · rfl
end
section
open Tryz Go.RowKit YtaanjifekgfemaaGreat.K YtaanjifekgfemaaGreat.W YtaanjifekgfemaaGreat.LN
attribute [local irreducible] Bg Ak Bb sub neg mag Da mul Dy
theorem Le {x : Int} (h : -2305843009213693952 ≤ x ∧ x ≤ 2305843009213693952) : ¬ Far x := by unfold Far; omega
theorem R9 (p : Par) (t : Int) : -2305843009213693952 ≤ Cn p t ∧ Cn p t ≤ 2305843009213693952 := by
 unfold Cn; have h := Bw t; have h1 : (1 : Int) ≤ max (Ak p.Pulse) 1 := by omega
 refine ⟨?_, ?_⟩
 ·rw [Int.le_ediv_iff_mul_le (by omega)]; have h2 : 2305843009213693952 * 1 ≤ 2305843009213693952 * max (Ak p.Pulse) 1 := Int.mul_le_mul_of_nonneg_left h1 (by decide); omega
 ·rw [← Int.lt_add_one_iff, Int.ediv_lt_iff_lt_mul (by omega)]; have h2 : (2305843009213693952 + 1) * 1 ≤ (2305843009213693952 + 1) * max (Ak p.Pulse) 1 := Int.mul_le_mul_of_nonneg_left h1 (by decide); omega
theorem Al1 {p : Par} (hp : p.Ok) {s : Stt} (hs : s.Fit p) {kind me : Int} (ref : Bool) {Aw : Sp} (hk : 1 ≤ kind ∧ kind ≤ 2) (hm : 0 ≤ me ∧ me ≤ 47) (he : (-2305843009213693952 ≤ Aw.lo ∧ Aw.lo ≤ 2305843009213693952) ∧ -2305843009213693952 ≤ Aw.hi ∧ Aw.hi ≤ 2305843009213693952) : (A51 p s kind me ref Aw).Ok := by
 have hD := hp.D; have h1 := hs.span; have h2 := hs.held; have h3 := hs.hops; have h4 : (Bm s).sta.Right := (Ml hs).right; have h5 := (Lm (Bm s).st (Bm s).sn).1 h4; refine ⟨⟨hk, hm, ⟨Le ⟨h1.1, Int.le_trans h1.2.1 h1.2.2⟩, Le ⟨Int.le_trans h1.1 h1.2.1, h1.2.2⟩, Le he.1, Le he.2, Le ?_, Le ⟨h5.1, h5.2.1⟩⟩, h2, ?_, h5.2.2⟩, hs.tab.1⟩
 ·show -2305843009213693952 ≤ (if Bq p s = 0 then 0 else Cn p s.time) ∧ (if Bq p s = 0 then 0 else Cn p s.time) ≤ 2305843009213693952; split
  ·decide
  ·exact R9 _ _
 ·show 0 ≤ s.hops ∧ s.hops ≤ 17; omega
theorem A1x {m : M} (h : m.Ok) : MIn m := by
 obtain ⟨⟨h1, h2, ⟨h3, h4, h5, h6, h7, h8⟩, h9, h10, h11⟩, ht⟩ := h; have hf := Ux ht; unfold Far at h3 h4 h5 h6 h7 h8; refine ⟨by have := hf.1; omega, hf.2, ?_⟩; intro x hx; simp only [List.mem_cons, List.not_mem_nil, or_false] at hx; unfold Bz; rcases hx with rfl | rfl | rfl | rfl | rfl | rfl | rfl | rfl | rfl | rfl | rfl <;> omega
theorem Bt2 : MIn M0 := by
 refine ⟨by decide, (fun x hx => by cases hx), fun x hx => ?_⟩; unfold Bz; simp [M0] at hx; omega
theorem A54 (p : Par) (i : Inp) : (-2305843009213693952 ≤ (Ex p i).lo ∧ (Ex p i).lo ≤ 2305843009213693952) ∧ -2305843009213693952 ≤ (Ex p i).hi ∧ (Ex p i).hi ≤ 2305843009213693952 := by
 unfold Ex Aw; split
 ·split
  ·exact ⟨Bm9 _ _, Ga _⟩
  ·exact ⟨by decide, by decide⟩
 ·exact ⟨by decide, by decide⟩
theorem X1 {p : Par} {s : Stt} (h : s.Fit p) (l : List Hd) : (Ce p s l).Fit p := by
  unfold Ce
  induction l generalizing s with
  | nil => exact h
  | cons x l ih =>
    refine ih ?_; unfold Jj; split
    · exact Ao9 h _
    · exact h
theorem M6 {p : Par} (hp : p.Ok) {s : Stt} (h : s.Fit p) (me : Int) (i : Inp) : (Cx p me s i).Fit p := Uu hp h _ _
theorem Nh {p : Par} (hp : p.Ok) {s : Stt} (h : s.Fit p) (l : List Hd) (ticks : Int) (tab : List (Int × Int)) : (Ax p l s ticks tab).Fit p := X1 (Uu hp h _ _) l
theorem Rc {p : Par} (hp : p.Ok) {s : Stt} (h : s.Fit p) {me : Int} (hm : 0 ≤ me ∧ me ≤ 47) (i : Inp) : (Ik p me s i).Ok := Al1 hp (M6 hp h me i) _ (by decide) hm (A54 p i)
theorem R3 {p : Par} (hp : p.Ok) {s : Stt} (h : s.Fit p) {me : Int} (hm : 0 ≤ me ∧ me ≤ 47) (l : List Hd) (ticks : Int) (tab : List (Int × Int)) : (P7 p me l s ticks tab).Ok := Al1 hp (Nh hp h l ticks tab) _ (by decide) hm (by decide)
theorem Az3 (wb : Nat) (p : Par) (time : Int) (ub : Nat) (us : List Un) (uc : Nat) (LA : Option Addr) (nl lc : Nat) (stp : Stp) (ui : Nat) (m : UM) (hum : us[ui]? = some m.un) (hqs : ∀ q ∈ m.u.qs, ∀ x ∈ q, x.1.size ≤ 4096) (w0 w : World) (F0 : List Nat) (L G : List Res) (I : St w0 F0 w (Aa wb (wC p (time) (.slice (some ⟨ub, 0, none⟩) us.length uc) (.slice LA nl lc)) 86 :: m.lres :: L) G) (hru : Rds L G (.slice (some ⟨ub, 0, none⟩) us.length uc) us.length (Ae unC us)) (hok : stp.Ok G) :
  Calls Tryz.prog 31 #[.pointer (some ⟨wb, 0, none⟩), .pointer (some ⟨ub, ui * 4, none⟩), .agg (Kc stp).toArray] w fun e w' => ∃ (i : Inp) (G' : List Res), e = .returned (.agg (Fp i).toArray) ∧ InpOf p stp m.u.who m.u.qs i ∧ (∀ r ∈ G, r ∈ G') ∧ Rds [] G' (.slice i.HA i.heard.length i.hcap) i.heard.length (Ae hdC i.heard) ∧ Lq G' i.heard ∧ (Bn i.tab ∧ Rds [] G' (.slice i.TA (i.tab).length i.tcap) (i.tab).length (lcs (i.tab))) ∧ i.heard.length ≤ 1000000 ∧ St w0 F0 w' (Aa wb (wC p (time) (.slice (some ⟨ub, 0, none⟩) us.length uc) (.slice LA nl lc)) 86 :: (m.setQs qs0).lres :: L) G' := by
 obtain ⟨hlt, he⟩ := List.getElem?_eq_some_iff.1 hum; have hlr : QR us[ui].lb 0 m.u.qs = m.lres := by rw [he]; rfl
 have hlr2 : QR us[ui].lb 0 qs0 = (m.setQs qs0).lres := by rw [he]; rfl
 have hwho : us[ui].who = m.u.who := by rw [he]; rfl
 refine (Ap4 wb p time ub us uc LA nl lc stp ui hlt m.u.qs hqs w0 w F0 L G (by rw [hlr]; exact I) hru hok).mono ?_; rintro e w' ⟨i, G', h1, h2, h3, h4, h5, h6, h7, h8⟩; rw [hlr2] at h8; rw [hwho] at h2 h6; have hst2 : St w0 F0 w (m.lres :: L) G := I.dr 1
 have hrn : Rds [] G' (.slice none 0 0) 0 [] := by
  obtain ⟨r, hr, _⟩ := hok.ticks; rcases hr with hr | hr
  ·cases hr
  ·exact ⟨r, .inr (h3 r hr), fun w _ => Sl.nil w⟩
 have ht := Az2 p m.u.who stp.ticks stp.reads (fun r hr => ⟨(hok.tabs r hr).1, (hok.tabs r hr).2.moreG h3⟩) hrn; rw [← h2.tab, ← h6.1, ← h6.2] at ht; exact ⟨i, G', h1, h2, h3, h4, h5, ht, h7, h8⟩
def UM.fn (m : UM) : FuncId := match m.gate with | true => 116 | false => 173
theorem Bf1 : (Tryz.prog.info? 150).map (fun ti => (ti.methods.find? (·.name == "Beat")).map (fun m => (m.path.toList, m.func))) = some (some ([], some (116, true))) := by kernel_rfl
theorem Bf2 : (Tryz.prog.info? 154).map (fun ti => (ti.methods.find? (·.name == "Beat")).map (fun m => (m.path.toList, m.func))) = some (some ([], some (173, true))) := by kernel_rfl
theorem Bd6 (m : UM) : Z5 Tryz.prog m.un.bt "Beat" m.fn := by
 unfold UM.un UM.fn; cases m.gate
 ·obtain ⟨ti, h1, h2⟩ := Option.map_eq_some_iff.1 Bf2; exact A07 h1 underlying154 h2
 ·obtain ⟨ti, h1, h2⟩ := Option.map_eq_some_iff.1 Bf1; exact A07 h1 underlying150 h2
theorem Bs6 (m : UM) : ∀ args w, (callFunc m.fn args).run Tryz.prog w = .ok (.enter m.fn args) w := by
 unfold UM.fn; cases m.gate
 ·intro args w; simp [go_sem]
 ·intro args w; simp [go_sem]
theorem A93 (tbl : List Int) (htl : tbl.length = 20) (p : Par) (hp : p.Ok) (m : UM) (hw : 0 ≤ m.u.who ∧ m.u.who ≤ 47) (stp : Stp) (i : Inp) (w0 w : World) (F0 : List Nat) (L G : List Res) (I : St w0 F0 w (m.fres p ++ L) G) (hpw : Gw tbl ∈ G) (hok : m.Ok p G) (hasc : Asc i.heard) (hl : i.heard.length ≤ 1000000) (hrI : Rds [] G (.slice i.TA (i.tab).length i.tcap) (i.tab).length (lcs (i.tab))) (hiT : Bn i.tab) (hrH : Rds [] G (.slice i.HA i.heard.length i.hcap) i.heard.length (Ae hdC i.heard)) (hfit : Lq G i.heard) :
  Calls Tryz.prog m.fn #[.pointer (some ⟨m.fb, 0, none⟩), .agg (Fp i).toArray] w fun e w' => ∃ (m' : UM) (h' : Hd) (G' : List Res), e = .returned (.agg (mhC h').toArray) ∧ Qh p m.u i m'.u h'.m ∧ m'.u.who = m.u.who ∧ m'.u.qs = m.u.qs ∧ m'.un = m.un ∧ m'.Ok p G' ∧ Ql G' h' ∧ (∀ r ∈ G, r ∈ G') ∧ St w0 F0 w' (m'.fres p ++ L) G' := by
 by_cases hg : m.u.who < 16
 ·have hgt : m.gate = true := decide_eq_true hg; have hfn : m.fn = 116 := by unfold UM.fn; rw [hgt]
  have hf : m.fres p = [Xv p m] := by unfold UM.fres; rw [hgt]
  rw [hf] at I; rw [hfn]; refine (Ao4 m.fb 153 p m.u.who m.u.s m.A m.cap i (Cz hok.fit.tab) hiT hl hasc w0 w F0 L G I hok.tab hrI hrH).mono ?_; rintro e w' ⟨A', c', A2, c2, G', h1, h2, h3, h4, h5⟩
  have hfr : ({ m with u := { m.u with s := Bm (Cx p m.u.who m.u.s i) }, A := A', cap := c' } : UM).fres p = [Xv p { m with u := { m.u with s := Bm (Cx p m.u.who m.u.s i) }, A := A', cap := c' }] := by
   unfold UM.fres; rw [show ({ m with u := { m.u with s := Bm (Cx p m.u.who m.u.s i) }, A := A', cap := c' } : UM).gate = true from hgt]
  exact ⟨{ m with u := { m.u with s := Bm (Cx p m.u.who m.u.s i) }, A := A', cap := c' }, ⟨Ik p m.u.who m.u.s i, A2, c2, 0⟩, G', h1, .inl ⟨hg, O, O, O⟩, O, O, O,
   ⟨Ml (M6 hp hok.fit _ _), h3, hok.near, hok.qs⟩, ⟨A1x (Rc hp hok.fit hw i), h4⟩, h2, by rw [hfr]; exact h5⟩
 ·have hgt : m.gate = false := decide_eq_false hg; have hfn : m.fn = 173 := by unfold UM.fn; rw [hgt]
  have hf : m.fres p = [Ys p m, Aa m.tb [.map (some m.mb)] 204, C9 ikE nrV m.mb m.u.es m.clock] := by unfold UM.fres; rw [hgt]
  rw [hf] at I; rw [hfn]; refine (Aqz tbl htl m.fb 158 p hp m.u.s m.A m.cap m.u.who m.tb m.mb m.u.es m.clock i (Cz hok.fit.tab) hok.near hl hasc w0 w F0 L G I hpw hok.tab hrH hfit).mono ?_; rintro e w' ⟨tab, A', c', A2, c2, G', h1, h2, h3, h4, h5, h6⟩; have hkn : NearFit (Ad m.u.who m.u.es m.clock i.heard).es := hok.near.known (k := ⟨m.u.es, m.clock, []⟩) m.u.who i.heard
  have hfr : ({ m with u := { m.u with s := Bm (Ax p (Ad m.u.who m.u.es m.clock i.heard).out m.u.s i.ticks tab), es := En 2 (Ad m.u.who m.u.es m.clock i.heard).es }, A := A', cap := c', clock := (Ad m.u.who m.u.es m.clock i.heard).clock } : UM).fres p = [Ys p { m with u := { m.u with s := Bm (Ax p (Ad m.u.who m.u.es m.clock i.heard).out m.u.s i.ticks tab), es := En 2 (Ad m.u.who m.u.es m.clock i.heard).es }, A := A', cap := c', clock := (Ad m.u.who m.u.es m.clock i.heard).clock }, Aa m.tb [.map (some m.mb)] 204, C9 ikE nrV m.mb (En 2 (Ad m.u.who m.u.es m.clock i.heard).es) (Ad m.u.who m.u.es m.clock i.heard).clock] := by
   unfold UM.fres; rw [show ({ m with u := { m.u with s := Bm (Ax p (Ad m.u.who m.u.es m.clock i.heard).out m.u.s i.ticks tab), es := En 2 (Ad m.u.who m.u.es m.clock i.heard).es }, A := A', cap := c', clock := (Ad m.u.who m.u.es m.clock i.heard).clock } : UM).gate = false from hgt]
  exact ⟨{ m with u := { m.u with s := Bm (Ax p (Ad m.u.who m.u.es m.clock i.heard).out m.u.s i.ticks tab), es := En 2 (Ad m.u.who m.u.es m.clock i.heard).es }, A := A', cap := c', clock := (Ad m.u.who m.u.es m.clock i.heard).clock }, ⟨P7 p m.u.who (Ad m.u.who m.u.es m.clock i.heard).out m.u.s i.ticks tab, A2, c2, 0⟩, G', h1, .inr ⟨hg, m.clock, tab, h2, O, O, O⟩, O, O, O,
   ⟨Ml (Nh hp hok.fit _ _ _), h4, hkn.tick 2, hok.qs⟩, ⟨A1x (R3 hp hok.fit hw _ _ _), h5⟩, h3, by rw [hfr]; exact h6⟩
theorem Ax5 : FA 40 5 5 := fun _ _ => by simp [Instr.fieldAt, Instr.sureAddr, go_sem]
theorem Bk1 : FA 40 6 6 := fun _ _ => by simp [Instr.fieldAt, Instr.sureAddr, go_sem]
theorem Bk2 : FA 40 7 7 := fun _ _ => by simp [Instr.fieldAt, Instr.sureAddr, go_sem]
theorem An3 : CF 28 := fun _ _ => by simp [go_sem]
theorem Bu5 : CF 31 := fun _ _ => by simp [go_sem]
theorem Br6 : CF 32 := fun _ _ => by simp [go_sem]
theorem Bu6 : CF 33 := fun _ _ => by simp [go_sem]
set_option maxHeartbeats 8000000 in
theorem Au2 (tbl : List Int) (htl : tbl.length = 20) (wb : Nat) (p : Par) (time : Int) (ub : Nat) (us : List Un) (uc : Nat) (LA : Option Addr) (lc : Nat) (hp : p.Ok) (links : List (Int × Int)) (stp : Stp) (hll : links.length + 2 * stp.join.length ≤ 900000) (hul : us.length ≤ 48) (ms : List UM) (hus : unL ms = us) (hlk : B4 us links) (hwho : ∀ m ∈ ms, 0 ≤ m.u.who ∧ m.u.who ≤ 47) (w0 w : World) (F0 : List Nat) (L G : List Res) (I : St w0 F0 w (Aa wb (wC p (time) (.slice (some ⟨ub, 0, none⟩) us.length uc) (.slice LA (links).length lc)) 86 :: Af (.slice (some ⟨ub, 0, none⟩) us.length uc) 96 4 us.length (Ae unC (us)) :: Af (.slice LA (links).length lc) 77 2 (links).length (Ae Aq (links)) :: ((ms).map UM.lres ++ (((ms).map (UM.fres p)).flatten ++ L))) G) (hms : ∀ m ∈ ms, m.Ok p G) (hok : stp.Ok G) (hpw : Gw tbl ∈ G) :
  Calls Tryz.prog 9 #[.pointer (some ⟨wb, 0, none⟩), .agg (Kc stp).toArray] w fun e w' => ∃ (ms1 : List UM) (sd : List Hd) (G' : List Res) (A' : Option Addr) (c' : Nat), e = .returned (.int .i64 0) ∧ RunS p stp us ms G us.length ms1 sd G' ∧ St w0 F0 w' (Aa wb (wC p ((Bb [time, p.Beat])) (.slice (some ⟨ub, 0, none⟩) us.length uc) (.slice A' ((Ba us ub (Bp links stp.cut) stp.join)).length c')) 86 :: Af (.slice (some ⟨ub, 0, none⟩) us.length uc) 96 4 us.length (Ae unC (us)) :: Af (.slice A' ((Ba us ub (Bp links stp.cut) stp.join)).length c') 77 2 ((Ba us ub (Bp links stp.cut) stp.join)).length (Ae Aq ((Ba us ub (Bp links stp.cut) stp.join))) :: ((Cp us stp (Ba us ub (Bp links stp.cut) stp.join) sd ms1 us.length).map UM.lres ++ (((Cp us stp (Ba us ub (Bp links stp.cut) stp.join) sd ms1 us.length).map (UM.fres p)).flatten ++ L))) G' := by
 obtain ⟨hl0, hl1, hl2, hl3, hl4, hl5, hl6, hl7⟩ := hok.lens; have hcl := Tx links stp.cut; have hjl := Md us ub (Bp links stp.cut) stp.join; have hlks : B4 us (Ba us ub (Bp links stp.cut) stp.join) := Fq (fun l y h => Fs h y) (Fq (fun l y h => Pc h y) hlk _) _; have hrn : Rds [] G (.slice none 0 0) 0 [] := ⟨Gw tbl, .inr hpw, fun w _ => Sl.nil w⟩; refine W.func func9 O ntmps9 O<|Wh O<|Ow O (X.boxA I O fun p3 w3 I => I.a O O<|Od O<|Wq O<|Wh O<|I.p O O<|I.y O (Y.isNil underlying45 O O)<|Od O<|Wu O O<|Wk O<|Wq O<|W.drawn O (by kernel_rfl) (Ctx _ _ (_) (_)) [14] (.op 0 0 (.op 1 0 (.op 2 0 (.op 3 0 (.op 4 0 (.op 5 0 (.op 6 0 (.op 7 0 (.op 8 0 (.op 9 0 (.op 10 1 (.op 11 1 (.op 12 0 (.op 13 0 (.op 14 1 .nil))))))))))))))) O (by kernel_rfl) I.drew.ctx<|?_); replace I := I.drew; generalize World.drew _ = wd at I ⊢; refine I.zp O O<|I.zp O O<|I.zt O O<|I.zf Vw O O<|I.zl 1 O O O O<|I.zp O O<|I.zt O O<|I.zf N2 O O<|I.zf I5 O O<|I.zl 1 O O O O<|Dw O (Xl I (by rfl) (by rfl) (by rfl) [.int _ _, .int _ _] (by rfl) (by rfl) fun p27 w27 I => ⟨(I.cx 1), ?_⟩); refine Dw O (X.ret Dr (Ap [time, p.Beat] _ _ (by simp) _ _ _ _ _ I (Rds.ofCells 0 O 2 2)) O fun _ I => ⟨(I.cx 1), ?_⟩); refine Dq O (I.cx 1) (Y.nilCheck O)<|Dq O (I.cx 1) (Y.fieldAddr Vw O)<|Drw.z O O O O (X.storeV I 2 (.int _ _) sizeOf3 O O O O (lZ O) O O fun _ I => Dd<|Wq O<|Wh O<|I.f Bk1 O O<|I.y O (Y.load 1 isAgg25 O O O)<|I.y O (Y.lenS underlying25 O)<|I.u O O<|Od O<|Wb O<|?_); refine W.loop (γ := Nat × Option Addr × Nat) [(0, .pointer _), (3, .pointer _), (32, .slice _ _ _), (33, .int _ _)] (fun x => [(34, .int .i64 (x.1 : Int))]) (fun x w => x.1 ≤ stp.cut.length ∧ St w0 F0 w (Aa p3 (Kc stp) 40 :: Aa wb (wC p ((Bb [time, p.Beat])) (.slice (some ⟨ub, 0, none⟩) us.length uc) (.slice x.2.1 ((Bp links (stp.cut.take x.1))).length x.2.2)) 86 :: Af (.slice (some ⟨ub, 0, none⟩) us.length uc) 96 4 us.length (Ae unC (us)) :: Af (.slice x.2.1 ((Bp links (stp.cut.take x.1))).length x.2.2) 77 2 ((Bp links (stp.cut.take x.1))).length (Ae Aq ((Bp links (stp.cut.take x.1)))) :: ((ms).map UM.lres ++ (((ms).map (UM.fres p)).flatten ++ L))) G) (fun x => stp.cut.length - x.1) ((0, LA, lc)) O ⟨O, O, O, O, trivial⟩ ?_ ?_ ?_
 ·exact ⟨O, trivial⟩
 ·exact ⟨by omega, I.dr 1⟩
 ·clear I; rintro ⟨k, A5, c5⟩ j w5 ⟨hk, I⟩; dsimp only at hk; refine Wh O<|I.v O O O (fun b35 hb35 => Od O<|Wq O<|?_); cases b35
  ·replace hb35 := dF hb35; refine Wu O O<|W.exit O<|Wq O<|Wq O<|?_; obtain rfl : k = stp.cut.length := by omega
   rw [show stp.cut.take stp.cut.length = stp.cut from List.take_length] at I; refine Wr O<|I.f Bk2 O O<|I.y O (Y.load 0 isAgg25 O O O)<|I.y O (Y.lenS underlying25 O)<|I.u O O<|Od O<|Wb O<|?_; refine W.loop (γ := Nat × Option Addr × Nat) [(0, .pointer _), (3, .pointer _), (43, .slice _ _ _), (44, .int _ _)] (fun x => [(45, .int .i64 (x.1 : Int))]) (fun x w => x.1 ≤ stp.join.length ∧ St w0 F0 w (Aa p3 (Kc stp) 40 :: Aa wb (wC p ((Bb [time, p.Beat])) (.slice (some ⟨ub, 0, none⟩) us.length uc) (.slice x.2.1 ((Ba us ub (Bp links stp.cut) (stp.join.take x.1))).length x.2.2)) 86 :: Af (.slice (some ⟨ub, 0, none⟩) us.length uc) 96 4 us.length (Ae unC (us)) :: Af (.slice x.2.1 ((Ba us ub (Bp links stp.cut) (stp.join.take x.1))).length x.2.2) 77 2 ((Ba us ub (Bp links stp.cut) (stp.join.take x.1))).length (Ae Aq ((Ba us ub (Bp links stp.cut) (stp.join.take x.1)))) :: ((ms).map UM.lres ++ (((ms).map (UM.fres p)).flatten ++ L))) G) (fun x => stp.join.length - x.1) ((0, A5, c5)) O ⟨O, O, O, O, trivial⟩ ?_ ?_ ?_
   ·exact ⟨O, trivial⟩
   ·exact ⟨by omega, I⟩
   ·clear I; rintro ⟨k, A5, c5⟩ j w10 ⟨hk, I⟩; dsimp only at hk; refine Wh O<|I.v O O O (fun b46 hb46 => Od O<|Wq O<|?_); cases b46
    ·replace hb46 := dF hb46; refine Wu O O<|W.exit O<|Wq O<|?_; obtain rfl : k = stp.join.length := by omega
     rw [show stp.join.take stp.join.length = stp.join from List.take_length] at I; refine Wr O<|I.p O O<|I.t O O<|I.f I8 O O<|I.y O (Y.load 1 isAgg84 O O O)<|I.y O (Y.lenS underlying84 O)<|Ow O (X.makeS I underlying90 mhC Hd0 Ai7 Ir O O O (by omega) (by omega) fun p58 w58 I => I.y O (Y.assignS O)<|Od O<|Wq O<|Wh O<|I.p O O<|I.t O O<|I.f I8 O O<|I.y O (Y.load 2 isAgg84 O O O)<|I.y O (Y.lenS underlying84 O)<|I.u O O<|Od O<|Wb O<|?_); refine W.loop (γ := Nat × List UM × List Hd × List Res) [(0, .pointer _), (3, .pointer _), (9, .slice _ _ _), (63, .int _ _)] (fun x => [(64, .int .i64 (x.1 : Int))]) (fun x w => (x.1 ≤ us.length ∧ RunS p stp us ms G x.1 x.2.1 x.2.2.1 x.2.2.2) ∧ St w0 F0 w (Aa p58 (Ae mhC (x.2.2.1)) 103 :: Aa p3 (Kc stp) 40 :: Aa wb (wC p ((Bb [time, p.Beat])) (.slice (some ⟨ub, 0, none⟩) us.length uc) (.slice A5 ((Ba us ub (Bp links stp.cut) stp.join)).length c5)) 86 :: Af (.slice (some ⟨ub, 0, none⟩) us.length uc) 96 4 us.length (Ae unC (us)) :: Af (.slice A5 ((Ba us ub (Bp links stp.cut) stp.join)).length c5) 77 2 ((Ba us ub (Bp links stp.cut) stp.join)).length (Ae Aq ((Ba us ub (Bp links stp.cut) stp.join))) :: ((x.2.1).map UM.lres ++ (((x.2.1).map (UM.fres p)).flatten ++ L))) x.2.2.2) (fun x => us.length - x.1) ((0, ms, List.replicate us.length Hd0, G)) O ⟨O, O, O, O, trivial⟩ ?_ ?_ ?_
     ·exact ⟨O, trivial⟩
     ·exact ⟨⟨Nat.zero_le _, RunS.start hus hms ⟨Bt2, hrn⟩⟩, I⟩
     ·clear I; rintro ⟨k, ms1, sd, G1⟩ j w16 ⟨⟨hk, hrun⟩, I⟩; dsimp only at hk hrun; refine Wh O<|I.v O O O (fun b65 hb65 => Od O<|Wq O<|?_); cases b65
      ·replace hb65 := dF hb65; refine Wu O O<|W.exit O<|Wq O<|Wq O<|?_; obtain rfl : k = us.length := by omega
       have hok1 := hok.mono hrun.more; have hsl : sd.length = us.length := by rw [hrun.len, Qe hus]
       refine Wr O<|I.p O O<|I.t O O<|I.f I8 O O<|I.y O (Y.load 2 isAgg84 O O O)<|I.y O (Y.lenS underlying84 O)<|I.u O O<|Od O<|Wb O<|?_; refine W.loop (γ := Nat) [(0, .pointer _), (3, .pointer _), (9, .slice _ _ _), (98, .slice _ _ _), (99, .int _ _)] (fun k => [(100, .int .i64 (k : Int))]) (fun k w => k ≤ us.length ∧ St w0 F0 w (Aa p58 (Ae mhC (sd)) 103 :: Aa p3 (Kc stp) 40 :: Aa wb (wC p ((Bb [time, p.Beat])) (.slice (some ⟨ub, 0, none⟩) us.length uc) (.slice A5 ((Ba us ub (Bp links stp.cut) stp.join)).length c5)) 86 :: Af (.slice (some ⟨ub, 0, none⟩) us.length uc) 96 4 us.length (Ae unC (us)) :: Af (.slice A5 ((Ba us ub (Bp links stp.cut) stp.join)).length c5) 77 2 ((Ba us ub (Bp links stp.cut) stp.join)).length (Ae Aq ((Ba us ub (Bp links stp.cut) stp.join))) :: (((Cp us stp (Ba us ub (Bp links stp.cut) stp.join) sd ms1 k)).map UM.lres ++ (((ms1).map (UM.fres p)).flatten ++ L))) G1) (fun k => us.length - k) (0) O ⟨O, O, O, O, O, trivial⟩ ?_ ?_ ?_
       ·exact ⟨O, trivial⟩
       ·exact ⟨by omega, I⟩
       ·clear I; rintro k j w24 ⟨hk2, I⟩; refine Wh O<|I.v O O O (fun b101 hb101 => Od O<|Wq O<|?_); cases b101
        ·replace hb101 := dF hb101; refine Wu O O<|W.exit O<|Wh O<|I.a O O<|Od O<|We O<|⟨_, Ac.one results9 O, ?_⟩; obtain rfl : k = us.length := by omega
         have hst2 := (I.dr 2); have e4 : ((Cp us stp (Ba us ub (Bp links stp.cut) stp.join) sd ms1 us.length)).map (UM.fres p) = ms1.map (UM.fres p) := K6 _ (Mj p) _ _ _ _ _ _; rw [← e4] at hst2; exact ⟨ms1, sd, G1, A5, c5, O, hrun, hst2⟩
        ·replace hb101 := dT hb101; refine Wt O O<|Wk O<|Wq O<|Wb O<|Wq O<|?_; have hlt1 : k < us.length := by omega
         have hlt2 : k < sd.length := by omega
         have hmk2 := hrun.msg _ (List.getElem_mem hlt2); have hus2 : unL (Cp us stp (Ba us ub (Bp links stp.cut) stp.join) sd ms1 k) = us := (K6 UM.un Nm _ _ _ _ _ _).trans hrun.un; have hso : us[k]? = some us[k] ∧ sd[k]? = some sd[k] := ⟨List.getElem?_eq_getElem hlt1, List.getElem?_eq_getElem hlt2⟩; refine Wr O<|I.u O O<|I.y O (Y.indexAddr underlying84 sizeOf96 O O (by simp) (by omega))<|?_; refine I.y O (Y.loadSlA isAgg96 sizeOf96 O (Rds.rowL 3 O) (Bo D1 us k hlt1) (D1 _))<|Ow O (X.allocA I zeroValue96 fun p14 w14 I => I.a O O<|Ow O (X.storeS I 0 sizeOf96 O O O O O (lZ O) O O fun _ I => Ds O O<|I.f Ax5 O O<|I.y O (Y.load 2 isAgg24 O O O)<|I.f Kr O O<|I.l 0 O O O O<|Ow O (X.retB Br6 (Mz stp.off (by omega) _ _ us[k].who _ _ _ _ _ I hok1.off.hd) O fun b109 w109 hb109 I => ?_))); cases b109
         ·replace hb109 := dF hb109; refine I.q O O<|Od O<|Wt O O<|W.drawn O (by kernel_rfl) (Ctx _ _ (_) (_)) [8] (.op 0 0 (.op 1 0 (.op 2 0 (.op 3 0 (.op 4 0 (.op 5 0 (.op 6 0 (.op 7 0 (.op 8 1 .nil))))))))) O (by kernel_rfl) I.drew.ctx<|?_; replace I := I.drew; generalize World.drew _ = wd at I ⊢; refine I.zp O O<|I.zf Kr O O<|I.zl 0 O O O O<|I.zs O O<|I.zu O O<|I.z O (Y.indexAddr underlying90 sizeOf103 O O (by simp) (by omega))<|?_; refine I.z O (Y.loadSlA isAgg103 sizeOf103 O (Rds.ofCells 1 O _ _) (Bo Ir sd k hlt2) (Ir _))<|I.z O (Y.loadA 2 isAgg40 sizeOf40 O O O O)<|Drw.z O O O O (X.call Bu6 O<|?_); refine Ab (A5q wb p (Bb [time, p.Beat]) ub us uc A5 c5 (Ba us ub (Bp links stp.cut) stp.join) (by omega) (by omega) (Cp us stp (Ba us ub (Bp links stp.cut) stp.join) sd ms1 k) hus2 hlks us[k].who sd[k].m sd[k].A sd[k].cap hmk2.1 stp _ _ _ _ _ (St.lan (S := [_, _, _]) (M := (Cp us stp (Ba us ub (Bp links stp.cut) stp.join) sd ms1 k).map UM.lres) (X := (ms1.map (UM.fres p)).flatten ++ L) I.up_5.up_5.up_5) hmk2.2 hok1) O ?_; clear I; rintro e w119 ⟨rfl, I⟩; replace I := (St.lan (S := (Al3 us us[k].who sd[k].m stp (Cp us stp (Ba us ub (Bp links stp.cut) stp.join) sd ms1 k) (Ba us ub (Bp links stp.cut) stp.join)).map UM.lres) (M := [_, _, _]) (X := (ms1.map (UM.fres p)).flatten ++ L) I).dn5.dn5.dn5; refine ⟨_, O, Dd<|Wr O<|I.j O O O (by omega)<|I.u O O<|Od O<|?_⟩; have e2 : Hh us stp (Ba us ub (Bp links stp.cut) stp.join) sd (Cp us stp (Ba us ub (Bp links stp.cut) stp.join) sd ms1 k) k = Al3 us us[k].who sd[k].m stp (Cp us stp (Ba us ub (Bp links stp.cut) stp.join) sd ms1 k) (Ba us ub (Bp links stp.cut) stp.join) := by unfold Hh; rw [hso.1, hso.2]; exact if_neg hb109
          have e3 := (Fw us stp (Ba us ub (Bp links stp.cut) stp.join) sd ms1 k).trans e2; exact ⟨k + 1, ⟨O, trivial⟩, ⟨O, O, O, O, O, trivial⟩, ⟨by omega, by rw [e3]; exact (I.dr 1)⟩, by omega⟩
         ·replace hb109 := dT hb109; refine I.q O O<|Od O<|Wu O O<|Wk O<|Wr O<|I.j O O O (by omega)<|I.u O O<|Od O<|?_; have e2 : Hh us stp (Ba us ub (Bp links stp.cut) stp.join) sd (Cp us stp (Ba us ub (Bp links stp.cut) stp.join) sd ms1 k) k = (Cp us stp (Ba us ub (Bp links stp.cut) stp.join) sd ms1 k) := by unfold Hh; rw [hso.1, hso.2]; exact if_pos hb109
          have e3 := (Fw us stp (Ba us ub (Bp links stp.cut) stp.join) sd ms1 k).trans e2; exact ⟨k + 1, ⟨O, trivial⟩, ⟨O, O, O, O, O, trivial⟩, ⟨by omega, by rw [e3]; exact (I.dr 1)⟩, by omega⟩
      ·replace hb65 := dT hb65; refine Wt O O<|Wk O<|Wq O<|Wb O<|Wq O<|?_; obtain ⟨mk, hmk⟩ : ∃ mk, ms[k]? = some mk := ⟨_, List.getElem?_eq_getElem (by have := Qe hus; omega)⟩; have hmk1 : ms1[k]? = some mk := (hrun.left k (Nat.le_refl _)).trans hmk; have hlane : (ms1.map UM.lres)[k]? = some mk.lres := by rw [List.getElem?_map, hmk1]; rfl
       have huk := Ag1 hus hmk; have hokk : mk.Ok p G1 := hrun.ok mk (List.mem_of_getElem? hmk1); have hok1 := hok.mono hrun.more; refine Wr O<|I.u O O<|I.a O O<|Ds O O<|I.p O O<|I.t O O<|I.f I8 O O<|I.y O (Y.load 2 isAgg84 O O O)<|I.u O O<|I.y O (Y.cast (Y.indexAddr underlying84 sizeOf96 O O (by simp) (by omega)) (congrArg (fun a => Value.pointer (some a)) (Vf ub (k : Int) 4)))<|?_; refine I.y O (Y.assignP O)<|Ds O O<|I.p O O<|I.p O O<|I.y O (Y.loadA 1 isAgg40 sizeOf40 O O O O)<|Oc O Bu5 O ?_; refine Ab (Az3 wb p (Bb [time, p.Beat]) ub us uc A5 ((Ba us ub (Bp links stp.cut) stp.join)).length c5 stp k mk huk hokk.qs _ _ _ _ _ (I.foc (pre := [_, _, _, _, _]) (mid := ms1.map UM.lres) (post := (ms1.map (UM.fres p)).flatten ++ L) (i := k) (r := mk.lres) hlane).up_3 (Rds.rowL 2 O) hok1) O ?_; clear I; rintro e w76 ⟨i, G2, rfl, hio, hG2, hrH, hfit, hiT, hhl, I⟩; replace I := St.unfoc (pre := [_, _, _, _, _]) (mid := ms1.map UM.lres) (post := (ms1.map (UM.fres p)).flatten ++ L) (i := k) (r := mk.lres) I.dn3 hlane; refine ⟨_, O, Ow O (X.allocA I zeroValue99 fun p12 w12 I => Ow O (X.storeS I 0 sizeOf99 O O O O O (lZ O) O O fun _ I => Od O<|Wq O<|?_))⟩; have hasc := Bi8 hio.heard; have hok2 := hok1.mono hG2; have hpw2 := hG2 _ (hrun.more _ hpw)
       have hfr1 : (ms1.set k (mk.setQs qs0)).map (UM.fres p) = ms1.map (UM.fres p) := by
        rw [List.map_set, Mj]; exact K7 (by rw [List.getElem?_map, hmk1]; rfl)
       have hlr1 : (ms1.map UM.lres).set k (mk.setQs qs0).lres = (ms1.set k (mk.setQs qs0)).map UM.lres := by rw [List.map_set]
       rw [hlr1, ← hfr1] at I; have hfk : ((ms1.set k (mk.setQs qs0)).map (UM.fres p))[k]? = some ((mk.setQs qs0).fres p) := by rw [hfr1, List.getElem?_map, hmk1]; rfl
       have hlt1 : k < us.length := by omega
       have heq : us[k] = mk.un := by rw [List.getElem?_eq_getElem hlt1] at huk; injection huk
       have hwk : us[k].who = mk.u.who := by rw [heq]; rfl
       have hsl : sd.length = us.length := by rw [hrun.len, Qe hus]
       have hbi : Value.iface us[k].bt (.pointer (some ⟨us[k].fb, 0, none⟩)) = .iface mk.un.bt (.pointer (some ⟨mk.fb, 0, none⟩)) := by rw [heq]; rfl
       refine I.dv [] (T0 [0,1,2,3,4,5] (.op 6 1 (.op 7 0 .nil))) O (by kernel_rfl) O (by kernel_rfl) fun wd I => ?_; refine I.zf Ax5 O O<|I.z O (Y.load 2 isAgg24 O O O)<|I.zp O O<|I.zt O O<|I.zf Kr O O<|I.z O (Y.loadCell isAgg3 O (Rds.rowL 4 O) ((C4 D1 us k 0 hlt1 (by decide)).trans O))<|?_; refine Dw O (X.retB Br6 (Mz stp.off (by omega) _ _ us[k].who _ _ _ _ _ I hok2.off.hd) O fun b83 w83 hb83 I => ⟨I.ctx, ?_⟩); cases b83
       ·replace hb83 := dF hb83; refine I.zq O O<|Dd<|Wt O O<|W.drawn O (by kernel_rfl) (Ctx _ _ (_) (_)) [7, 8, 9] (.op 0 2 (.op 1 2 (.op 2 0 (.op 3 0 (.op 4 0 (.op 5 0 (.op 6 0 (.op 7 1 (.op 8 1 (.op 9 1 .nil)))))))))) O (by kernel_rfl) I.drew.ctx<|?_; replace I := I.drew; generalize World.drew _ = wd at I ⊢; refine Drw.ya O O O I.ctx (Y.moveS O)<|Drw.ya O O O I.ctx (Y.moveI O)<|I.zp O O<|I.zt O O<|I.zf Abz O O<|I.z O (Y.cast (Y.loadCell isAgg93 O (Rds.rowL 4 O) ((C4 D1 us k 1 hlt1 (by decide)).trans O)) hbi)<|?_; refine I.z O (Y.loadA 0 isAgg99 sizeOf99 O O O O)<|Drw.z O O O O (X.callI (Bd6 mk) (Bs6 mk) O O<|?_); refine Ab (A93 tbl htl p hp (mk.setQs qs0) (hwho mk (List.mem_of_getElem? hmk)) stp i _ _ _ _ _ (I.focF2 (pre := [_, _, _, _, _, _]) (lan := (ms1.set k (mk.setQs qs0)).map UM.lres) (mid := (ms1.set k (mk.setQs qs0)).map (UM.fres p)) (post := L) (i := k) hfk) hpw2 ((⟨hokk.fit, hokk.tab, hokk.near, Qa⟩ : (mk.setQs qs0).Ok p G1).mono hG2) hasc hhl hiT.2 hiT.1 hrH hfit) O ?_; clear I; rintro e w92 ⟨m', h', G3, rfl, hbc, hwho', hqs', hun', hok', hmsg', hG3, I⟩; replace I := St.unfocF2 (pre := [_, _, _, _, _, _]) (lan := (ms1.set k (mk.setQs qs0)).map UM.lres) (mid := (ms1.set k (mk.setQs qs0)).map (UM.fres p)) (post := L) (i := k) I hfk; refine ⟨_, O, Drw.zy O O O O I.ctx (Y.cast (Y.indexAddr underlying90 sizeOf103 O O (by simp) (by omega)) (congrArg (fun a => Value.pointer (some a)) (Vf p58 (k : Int) 14)))<|?_⟩; refine Drw.z rfl rfl rfl rfl (X.storeS I 1 sizeOf103 (b := p58) (i := k * 14) rfl rfl rfl rfl rfl (by have h9 := Gi Ir sd; show _ ≤ (Ae mhC sd).length; omega) (Ra Ir sd k h' (by omega)) rfl fun _ I => ?_); refine Dd<|Wr O<|I.j O O O (by omega)<|I.u O O<|Od O<|?_
        have hlb' : m'.lres = (mk.setQs qs0).lres := by
         have h1 : m'.lb = mk.lb := congrArg Un.lb hun'; have h2 : m'.u.qs = qs0 := hqs'; unfold UM.lres; rw [h1, h2]; rfl
        have hst2 := (I.dr 1); have e1 : (ms1.set k (mk.setQs qs0)).map UM.lres = (ms1.set k m').map UM.lres := by rw [List.map_set, List.map_set, hlb']
        have e2 : ((ms1.set k (mk.setQs qs0)).map (UM.fres p)).set k (m'.fres p) = (ms1.set k m').map (UM.fres p) := by rw [List.map_set, List.map_set, List.set_set]
        rw [e1, e2] at hst2; have hbu : O0 p stp mk.u m'.u h'.m := ⟨hwho', hqs', .inr ⟨by rw [← hwk]; exact hb83, i, hio, hbc⟩⟩; exact ⟨(k + 1, ms1.set k m', sd.set k h', G3), ⟨O, trivial⟩, ⟨O, O, O, O, trivial⟩, ⟨⟨by dsimp only; omega, hrun.step hmk hbu hun' hok' hmsg' (fun r hr => hG3 r (hG2 r hr))⟩, hst2⟩, by dsimp only; omega⟩
       ·replace hb83 := dT hb83; refine I.zq O O<|Dd<|Wu O O<|Wk O<|Wr O<|I.j O O O (by omega)<|I.u O O<|Od O<|?_; have hst2 := (I.dr 1); obtain ⟨hk0, hk0s⟩ : ∃ h, sd[k]? = some h := ⟨_, List.getElem?_eq_getElem (by omega)⟩; have hz := hrun.left2 k _ (Nat.le_refl _) hk0s; subst hz; have e3 : sd.set k Hd0 = sd := K7 hk0s; have hbu : O0 p stp mk.u (mk.setQs qs0).u Hd0.m := O0.off (by rw [← hwk]; exact hb83); have hstp := hrun.step hmk (m' := mk.setQs qs0) (h' := Hd0) (G2 := G2) hbu rfl ((⟨hokk.fit, hokk.tab, hokk.near, Qa⟩ : (mk.setQs qs0).Ok p G1).mono hG2) ((hrun.msg _ (List.mem_of_getElem? hk0s)).mono hG2) hG2; rw [e3] at hstp; exact ⟨(k + 1, (ms1.set k (mk.setQs qs0)), sd, G2), ⟨O, trivial⟩, ⟨O, O, O, O, trivial⟩, ⟨⟨by dsimp only; omega, hstp⟩, hst2⟩, by dsimp only; omega⟩
    ·replace hb46 := dT hb46; refine Wt O O<|Wk O<|Wq O<|Wb O<|Wq O<|?_; have hk1 : k < stp.join.length := by omega
     have hjk := Md us ub (Bp links stp.cut) (stp.join.take k); rw [List.length_take] at hjk; refine Wr O<|I.y O (Y.indexAddr underlying25 sizeOf77 O O ((hok.join.hd.sl I).ne (Bi Cc (by decide) (by omega))) (by omega))<|?_; refine I.y O (Y.loadSlA isAgg77 sizeOf77 O hok.join.hd (Bo Cc stp.join k hk1) O)<|Ow O (X.allocA I zeroValue77 fun p8 w8 I => Ow O (X.storeS I 0 sizeOf77 O O O O O (lZ O) O O fun _ I => Od O<|Wr O<|I.p O O<|I.y O (Y.loadA 0 isAgg77 sizeOf77 O O O O)<|Oc O An3 O ?_)); refine Ab (Qu wb p (Bb [time, p.Beat]) ub us uc (Fh us ub) 1000000 (Jm us ub) ((Ba us ub (Bp links stp.cut) (stp.join.take k))) (by omega) A5 c5 stp.join[k] 30 A9q _ _ _ _ _ (I.up_4.up_3) (fun l hl A c y w L1 I => Nc wb p (Bb [time, p.Beat]) ub us uc l hl A c y (by omega) _ _ _ _ _ I (Rds.rowM (List.mem_append_right _ (.tail _ (.tail _ (.head _))))))) O ?_; clear I; rintro e w_b ⟨A6, c6, rfl, I⟩; replace I := I.dn3.dn4; refine ⟨_, O, ?_⟩; refine Od O<|Wr O<|I.j O O O (by omega)<|I.u O O<|Od O<|?_; have e2 := Pa us ub (Bp links stp.cut) stp.join k hk1; have hst2 := (I.dr 1); rw [← e2] at hst2; exact ⟨(k + 1, A6, c6), ⟨O, trivial⟩, ⟨O, O, O, O, trivial⟩, ⟨by dsimp only; omega, hst2⟩, by dsimp only; omega⟩
  ·replace hb35 := dT hb35; refine Wt O O<|Wk O<|Wq O<|Wb O<|Wq O<|?_; have hk1 : k < stp.cut.length := by omega
   have hck := Tx links (stp.cut.take k); refine Wr O<|I.y O (Y.indexAddr underlying25 sizeOf77 O O ((hok.cut.hd.sl I).ne (Bi Cc (by decide) (by omega))) (by omega))<|?_; refine I.y O (Y.loadSlA isAgg77 sizeOf77 O hok.cut.hd (Bo Cc stp.cut k hk1) O)<|Ow O (X.allocA I zeroValue77 fun p6 w6 I => Ow O (X.storeS I 0 sizeOf77 O O O O O (lZ O) O O fun _ I => Od O<|Wr O<|I.p O O<|I.y O (Y.loadA 0 isAgg77 sizeOf77 O O O O)<|Oc O An3 O ?_)); refine Ab (Qu wb p (Bb [time, p.Beat]) ub us uc (Aaz) 1000000 (fun l y => Nat.le_succ_of_le (Q4 l y)) ((Bp links (stp.cut.take k))) (by omega) A5 c5 stp.cut[k] 29 Bu4 _ _ _ _ _ (I.up_4.up_3) (fun l hl A c y w L1 I => (Ba6 wb p (Bb [time, p.Beat]) ub us uc l hl A c y _ _ _ _ _ I).mono (fun e w' ⟨h1, h2⟩ => ⟨A, c, h1, h2⟩))) O ?_; clear I; rintro e w_b ⟨A6, c6, rfl, I⟩; replace I := I.dn3.dn4; refine ⟨_, O, ?_⟩; refine Od O<|Wr O<|I.j O O O (by omega)<|I.u O O<|Od O<|?_; have e2 := Ab0 links stp.cut k hk1; have hst2 := (I.dr 1); rw [← e2] at hst2; exact ⟨(k + 1, A6, c6), ⟨O, trivial⟩, ⟨O, O, O, O, trivial⟩, ⟨by dsimp only; omega, hst2⟩, by dsimp only; omega⟩
end
section
open Tryz Go.RowKit YtaanjifekgfemaaGreat.K YtaanjifekgfemaaGreat.W YtaanjifekgfemaaGreat.LN
def S00 : Stt := ⟨0, 0, 0, false, 0, 0, false, [], 0, 0, 0⟩
def F6 (p : Par) (n : Nat) : List PU := (List.range n).map fun (i : Nat) => E2 p (i : Int) S00
def Gv (p : Par) (n : Nat) : List PU := (List.range n).map fun (i : Nat) => E2 p (16 + (i : Int)) S00
theorem Xw (p : Par) (n : Nat) : F6 p (n + 1) = F6 p n ++ [E2 p (n : Int) S00] := by unfold F6; rw [List.range_succ, List.map_append]; rfl
theorem Yu (p : Par) (n : Nat) : Gv p (n + 1) = Gv p n ++ [E2 p (16 + (n : Int)) S00] := by unfold Gv; rw [List.range_succ, List.map_append]; rfl
def puL (ms : List UM) : List PU := ms.map (·.u)
def jkF (us : List Un) (ub : Nat) (i : Nat) (l : List (Int × Int)) (n : Nat) : List (Int × Int) := (List.range n).foldl (fun l (k : Nat) => Fh us ub l ((i : Int), (k : Int))) l
def jc1 (us : List Un) (ub : Nat) (i : Nat) (l : List (Int × Int)) (c : Int) : List (Int × Int) := if 0 ≤ c ∧ c < 32 then Fh us ub l ((i : Int), 16 + c) else l
def jcF (us : List Un) (ub : Nat) (i : Nat) (l : List (Int × Int)) (cs : List Int) : List (Int × Int) := cs.foldl (jc1 us ub i) l
def ji1 (us : List Un) (ub : Nat) (n : Nat) (cs : List Int) (l : List (Int × Int)) (i : Nat) : List (Int × Int) := jcF us ub i (jkF us ub i l n) cs
def jiF (us : List Un) (ub : Nat) (n : Nat) (cs : List Int) (m : Nat) : List (Int × Int) := (List.range m).foldl (ji1 us ub n cs) []
def Ky (us : List Un) (ub : Nat) (n : Nat) (cs : List Int) (ls : List (Int × Int)) : List (Int × Int) := Ba us ub (jiF us ub n cs n) ls
theorem Ru (us : List Un) (ub : Nat) (i : Nat) (l : List (Int × Int)) (k : Nat) : jkF us ub i l (k + 1) = Fh us ub (jkF us ub i l k) ((i : Int), (k : Int)) := by unfold jkF; rw [List.range_succ, List.foldl_append]; rfl
theorem Rt (us : List Un) (ub : Nat) (i : Nat) (l : List (Int × Int)) (cs : List Int) (k : Nat) (h : k < cs.length) : jcF us ub i l (cs.take (k + 1)) = jc1 us ub i (jcF us ub i l (cs.take k)) cs[k] := Hl _ _ _ _ h
theorem Yb (us : List Un) (ub : Nat) (n : Nat) (cs : List Int) (i : Nat) : jiF us ub n cs (i + 1) = ji1 us ub n cs (jiF us ub n cs i) i := by unfold jiF; rw [List.range_succ, List.foldl_append]; rfl
theorem V6 (us : List Un) (ub : Nat) (i : Nat) (l : List (Int × Int)) (n : Nat) : (jkF us ub i l n).length ≤ l.length + n := by
 induction n with
 | zero => exact Nat.le_refl _
 | succ n ih => rw [Ru]; have := Jm us ub (jkF us ub i l n) ((i : Int), (n : Int)); omega
theorem Bc8 (us : List Un) (ub : Nat) (i : Nat) (l : List (Int × Int)) (c : Int) : (jc1 us ub i l c).length ≤ l.length + 1 := by
 unfold jc1; split
 ·exact Jm ..
 ·omega
theorem Ai9 (us : List Un) (ub : Nat) (i : Nat) (l : List (Int × Int)) (cs : List Int) : (jcF us ub i l cs).length ≤ l.length + cs.length := by
 unfold jcF
 induction cs generalizing l with
 | nil => simp
 | cons c cs ih => have h1 := ih (jc1 us ub i l c); have h2 := Bc8 us ub i l c; simp only [List.foldl_cons, List.length_cons] at h1 ⊢; omega
theorem Aiq (us : List Un) (ub : Nat) (n : Nat) (cs : List Int) (m : Nat) : (jiF us ub n cs m).length ≤ m * (n + cs.length) := by
  induction m with
  | zero => simp [jiF]
  | succ m ih =>
    rw [Yb]; unfold ji1; have h1 := V6 us ub m (jiF us ub n cs m) n; have h2 := Ai9 us ub m (jkF us ub m (jiF us ub n cs m) n) cs; rw [Nat.add_mul]; omega
theorem Yi (us : List Un) : B4 us [] := fun l h => by cases h
theorem Aq1 (us : List Un) (ub : Nat) (n : Nat) (cs : List Int) (ls : List (Int × Int)) : B4 us (Ky us ub n cs ls) := by
  refine Fq (fun l y h => Fs h y) ?_ _; unfold jiF
  have hk : ∀ (i : Nat) (l : List (Int × Int)) (n : Nat), B4 us l → B4 us (jkF us ub i l n) := by
    intro i l n h
    induction n with
    | zero => exact h
    | succ n ih => rw [Ru]; exact Fs ih _
  have hc : ∀ (i : Nat) (cs : List Int) (l : List (Int × Int)), B4 us l → B4 us (jcF us ub i l cs) := by
    intro i cs; unfold jcF
    induction cs with
    | nil => intro l h; exact h
    | cons c cs ih =>
      intro l h; refine ih _ ?_; unfold jc1; split
      · exact Fs h _
      · exact h
  have : ∀ (js : List Nat) (l : List (Int × Int)), B4 us l → B4 us (js.foldl (ji1 us ub n cs) l) := by
    intro js
    induction js with
    | nil => intro l h; exact h
    | cons j js ih => intro l h; exact ih _ (hc _ _ _ (hk _ _ _ h))
  exact this _ _ (Yi us)
theorem As5 {w : World} {A : Option Addr} {m cp size : Nat} {e : TypeId} {xs : List Value} (h : (Af (.slice A m cp) e size m xs).holds w) (hm : 0 < m) : ∃ gb, A = some ⟨gb, 0, none⟩ := by
 rcases h.2 with ⟨h1, h2⟩ | ⟨g, cap, cur, h1, _⟩
 ·omega
 ·injection h1 with h1 h3 h4; exact ⟨g, h1⟩
theorem Ctx.of_mem {w0 w : World} {F0 : List Nat} {L G G0 : List Res} {r : Res} (h : St w0 F0 w L G) (hr : r ∈ L) (hG : ∀ g ∈ G0, g ∈ G) : Ctx w0 F0 [r] G0 w := by
 obtain ⟨A, B, rfl⟩ := List.append_of_mem hr; refine ⟨A ++ B, [], (h.facts hG).perm ?_⟩; have h1 : (A ++ r :: B).Perm (r :: (A ++ B)) := List.perm_middle; exact h1.trans (List.perm_append_singleton r (A ++ B)).symm
theorem St.newU {w0 w : World} {F0 : List Nat} {G : List Res} {a x : Res} {S M L F : List Res} {FF : List (List Res)} (h : St w0 F0 w (a :: x :: (F ++ (S ++ (M ++ (FF.flatten ++ L))))) G) : St w0 F0 w (a :: (S ++ ((M ++ [x]) ++ ((FF ++ [F]).flatten ++ L)))) G :=
 h.perm (by
  refine List.Perm.cons a ?_; have e1 : (FF ++ [F]).flatten = FF.flatten ++ F := by simp
  rw [e1]; have p1 : (x :: (F ++ (S ++ (M ++ (FF.flatten ++ L))))).Perm (F ++ (x :: (S ++ (M ++ (FF.flatten ++ L))))) := List.perm_middle.symm
  have p2 : (F ++ (x :: (S ++ (M ++ (FF.flatten ++ L))))).Perm ((x :: (S ++ (M ++ (FF.flatten)))) ++ (F ++ L)) := by
   have : (x :: (S ++ (M ++ (FF.flatten ++ L)))) = (x :: (S ++ (M ++ FF.flatten))) ++ L := by simp
   rw [this, ← List.append_assoc F, ← List.append_assoc (x :: (S ++ (M ++ FF.flatten)))]; exact List.perm_append_comm.append_right _
  have p3 : ((x :: (S ++ (M ++ (FF.flatten)))) ++ (F ++ L)).Perm (S ++ ((M ++ [x]) ++ ((FF.flatten ++ F) ++ L))) := by
   have e2 : (x :: (S ++ (M ++ FF.flatten))) ++ (F ++ L) = x :: ((S ++ M) ++ (FF.flatten ++ (F ++ L))) := by simp
   have e3 : S ++ ((M ++ [x]) ++ ((FF.flatten ++ F) ++ L)) = (S ++ M) ++ (x :: (FF.flatten ++ (F ++ L))) := by simp
   rw [e2, e3]; exact List.perm_middle.symm
  exact p1.trans (p2.trans p3))
end
section
open Tryz Go.RowKit YtaanjifekgfemaaGreat.K YtaanjifekgfemaaGreat.W YtaanjifekgfemaaGreat.LN
attribute [local irreducible] Bg Ak Bb sub neg mag Da mul Dy
theorem Bg2 {S ρ ty} {parts : Array (Nat × Operand)}  (hp : (parts.toList.map fun x => (x.1, ev ρ x.2)) = []) : Y Tryz.prog S ρ (.build 57 parts) ty (.agg #[.int .i64 0, .int .i64 0, .int .i64 0, Value.bool false, .int .i64 0, .int .i64 0, Value.bool false, Value.slice none 0 0, .int .i64 0, .int .i64 0, .int .i64 0]) :=
 Y.build hp fun w => by simp [Instr.build, go_sem]
theorem Bix {S ρ ty} {parts : Array (Nat × Operand)} {a b f g h j k m n o d e : Int} (hp : (parts.toList.map fun x => (x.1, ev ρ x.2)) = [(0, .agg #[.int .i64 a, .int .i64 b, .int .i64 f, .int .i64 g, .int .i64 h, .int .i64 j, .int .i64 k, .int .i64 m, .int .i64 n, .int .i64 o, .int .i64 d, .int .i64 e])]) : Y Tryz.prog S ρ (.build 86 parts) ty (.agg #[.int .i64 a, .int .i64 b, .int .i64 f, .int .i64 g, .int .i64 h, .int .i64 j, .int .i64 k, .int .i64 m, .int .i64 n, .int .i64 o, .int .i64 d, .int .i64 e, .int .i64 0, Value.slice none 0 0, Value.slice none 0 0]) :=
 Y.build hp fun w => by simp [Instr.build, go_sem]
theorem Br3 : CF 22 := fun _ _ => by simp [go_sem]
theorem Az0 : (Tryz.prog.info? 96).map (fun i => (i.zero, i.size, i.bytes)) = some (some (.agg #[Value.int .i64 0, Value.nilIface, Value.pointer none, Value.pointer none]), 4, 40) := by kernel_rfl
set_option maxHeartbeats 8000000 in
theorem A79 (p : Par) (hp : p.Ok) (nodes : Nat) (hnd : nodes ≤ 32) (core : List Int) (hcl : core.length ≤ 1000) (B : Option Addr) (cb : Nat) (links : List (Int × Int)) (hll : links.length ≤ 100000) (C : Option Addr) (cc : Nat) (w0 w : World) (F0 : List Nat) (L G : List Res) (I : St w0 F0 w L G) (hrn : Rds [] G (.slice none 0 0) 0 []) (hrc : Rds [] G (.slice B core.length cb) core.length (ivs core)) (hrl : Rds [] G (.slice C links.length cc) links.length (Ae Aq links)) :
  Calls Tryz.prog 20 #[.agg #[.int .i64 p.N, .int .i64 p.F, .int .i64 p.D, .int .i64 p.Beat, .int .i64 p.Rho, .int .i64 p.Delay, .int .i64 p.Jitter, .int .i64 p.Eps, .int .i64 p.Mu, .int .i64 p.Hold, .int .i64 p.Pulse, .int .i64 p.Second], .int .i64 (nodes : Int), .slice B core.length cb, .slice C links.length cc] w fun e w' => ∃ (wb ub uc : Nat) (LA : Option Addr) (lc : Nat) (ms : List UM) (G' : List Res), e = .returned (.tuple #[.pointer (some ⟨wb, 0, none⟩), .int .i64 0]) ∧ puL ms = F6 p p.N.toNat ++ Gv p nodes ∧ (∀ m ∈ ms, m.Ok p G') ∧ (∀ r ∈ G, r ∈ G') ∧ St w0 F0 w' (Aa wb (wC p 0 (.slice (some ⟨ub, 0, none⟩) (unL ms).length uc) (.slice LA (Ky (unL ms) ub p.N.toNat core links).length lc)) 86 :: Af (.slice (some ⟨ub, 0, none⟩) (unL ms).length uc) 96 4 (unL ms).length (Ae unC (unL ms)) :: Af (.slice LA (Ky (unL ms) ub p.N.toNat core links).length lc) 77 2 (Ky (unL ms) ub p.N.toNat core links).length (Ae Aq (Ky (unL ms) ub p.N.toNat core links)) :: ((ms).map UM.lres ++ (((ms).map (UM.fres p)).flatten ++ L))) G' := by
 have hN := hp.N; refine W.func func20 O ntmps20 O<|Wh O<|Ow O (X.boxA I O fun p4 w4 I => I.y O (Y.assignP O)<|I.a O O<|Od O<|Wq O<|Wh O<|I.y O (Y.loadA 0 isAgg23 sizeOf23 O O O O)<|Oc O Br3 O ?_); refine Ab (Tv p _ _ _ _ _ I) O ?_; clear I; rintro e w20 ⟨er, rfl, hch, I⟩; obtain rfl : er = 0 := hch.2 hp; refine ⟨_, O, I.yb O (Y.neq O O) (fun b21 hb21 => I.b O O<|?_)⟩; cases b21
 ·replace hb21 := dF hb21; refine I.u O O<|I.v O O O (fun b24 hb24 => I.k O O O<|I.b O O<|?_); cases b24
  ·replace hb24 := dF hb24; refine I.u O O<|I.V O O O (fun b28 hb28 => I.k O O O<|Od O<|?_); cases b28
   ·replace hb28 := dF hb28; refine Wu O O<|Wk O<|Wh O<|I.y O (Y.loadA 0 isAgg23 sizeOf23 O O O O)<|I.y O (Bix O)<|Ow O (X.boxA I O fun p32 w32 I => I.y O (Y.assignP O)<|Od O<|Wq O<|Wh O<|?_); replace I := (((I.nilRow 77 2).nilRow 96 4).up_2); refine I.f F3 O O<|I.l 3 O O O O<|I.u O O<|Od O<|Wb O<|?_; refine W.loop (γ := Nat × List UM × Option Addr × Nat × List Res) [(1, .int _ _), (2, .slice _ _ _), (3, .slice _ _ _), (4, .pointer _), (10, .pointer _), (34, .int _ _)] (fun x => [(35, .int .i64 (x.1 : Int))]) (fun x w => (x.1 ≤ p.N.toNat ∧ (puL x.2.1) = F6 p x.1 ∧ (∀ m ∈ x.2.1, m.Ok p x.2.2.2.2) ∧ ∀ r ∈ G, r ∈ x.2.2.2.2) ∧ St w0 F0 w (Aa p32 (wC p 0 (.slice x.2.2.1 (unL x.2.1).length x.2.2.2.1) (.slice none 0 0)) 86 :: Af (.slice x.2.2.1 (unL x.2.1).length x.2.2.2.1) 96 4 (unL x.2.1).length (Ae unC (unL x.2.1)) :: Af (.slice none 0 0) 77 2 0 [] :: Aa p4 (E4 p) 23 :: ((x.2.1).map UM.lres ++ (((x.2.1).map (UM.fres p)).flatten ++ L))) x.2.2.2.2) (fun x => p.N.toNat - x.1) ((0, [], none, 0, G)) O ⟨O, O, O, O, O, O, trivial⟩ ?_ ?_ ?_
    ·exact ⟨O, trivial⟩
    ·exact ⟨⟨Nat.zero_le _, O, fun m h => (by cases h), fun r hr => hr⟩, I⟩
    ·clear I; rintro ⟨k, ms, A5, c5, G1⟩ j w5 ⟨⟨hk, hpu, hok, hG1⟩, I⟩; dsimp only at hk hpu hok hG1; refine Wh O<|I.v O O O (fun b36 hb36 => Od O<|Wq O<|?_); cases b36
     ·replace hb36 := dF hb36; refine Wu O O<|W.exit O<|Wq O<|Wq O<|?_; obtain rfl : k = p.N.toNat := by omega
      refine Wr O<|I.u O O<|I.u O O<|Od O<|Wb O<|?_; refine W.loop (γ := Nat × List UM × Option Addr × Nat × List Res) [(2, .slice _ _ _), (3, .slice _ _ _), (4, .pointer _), (10, .pointer _), (52, .int _ _)] (fun x => [(53, .int .i64 (x.1 : Int))]) (fun x w => (x.1 ≤ nodes ∧ (puL x.2.1) = F6 p p.N.toNat ++ Gv p x.1 ∧ (∀ m ∈ x.2.1, m.Ok p x.2.2.2.2) ∧ ∀ r ∈ G, r ∈ x.2.2.2.2) ∧ St w0 F0 w (Aa p32 (wC p 0 (.slice x.2.2.1 (unL x.2.1).length x.2.2.2.1) (.slice none 0 0)) 86 :: Af (.slice x.2.2.1 (unL x.2.1).length x.2.2.2.1) 96 4 (unL x.2.1).length (Ae unC (unL x.2.1)) :: Af (.slice none 0 0) 77 2 0 [] :: Aa p4 (E4 p) 23 :: ((x.2.1).map UM.lres ++ (((x.2.1).map (UM.fres p)).flatten ++ L))) x.2.2.2.2) (fun x => nodes - x.1) ((0, ms, A5, c5, G1)) O ⟨O, O, O, O, O, trivial⟩ ?_ ?_ ?_
      ·exact ⟨O, trivial⟩
      ·exact ⟨⟨Nat.zero_le _, by dsimp only; rw [hpu]; simp [Gv], hok, hG1⟩, I⟩
      ·clear I; rintro ⟨k, ms, A5, c5, G1⟩ j w10 ⟨⟨hk, hpu, hok, hG1⟩, I⟩; dsimp only at hk hpu hok hG1; refine Wh O<|I.v O O O (fun b54 hb54 => Od O<|Wq O<|?_); cases b54
       ·replace hb54 := dF hb54; refine Wu O O<|W.exit O<|Wq O<|Wq O<|?_; obtain rfl : nodes = k := by omega
        have hml : (unL ms).length = p.N.toNat + nodes := by have h1 := congrArg List.length hpu; unfold puL F6 Gv at h1; unfold unL; rw [List.length_map] at h1 ⊢; rw [h1]; simp
        obtain ⟨uc, rfl⟩ : ∃ uc, uc = c5 := ⟨_, rfl⟩; obtain ⟨ub, rfl⟩ := As5 (I.res _ (.tail _ (.head _))) (by show 0 < (unL ms).length; omega); have hul : (unL ms).length ≤ 1000000 := by omega
        refine Wr O<|I.f F3 O O<|I.l 3 O O O O<|I.u O O<|Od O<|Wb O<|?_; refine W.loop (γ := Nat × Option Addr × Nat) [(2, .slice _ _ _), (3, .slice _ _ _), (4, .pointer _), (10, .pointer _), (72, .int _ _)] (fun x => [(73, .int .i64 (x.1 : Int))]) (fun x w => x.1 ≤ p.N.toNat ∧ St w0 F0 w (Aa p32 (wC p 0 (.slice (some ⟨ub, 0, none⟩) (unL ms).length uc) (.slice x.2.1 ((jiF (unL ms) ub p.N.toNat core x.1)).length x.2.2)) 86 :: Af (.slice (some ⟨ub, 0, none⟩) (unL ms).length uc) 96 4 (unL ms).length (Ae unC (unL ms)) :: Af (.slice x.2.1 ((jiF (unL ms) ub p.N.toNat core x.1)).length x.2.2) 77 2 ((jiF (unL ms) ub p.N.toNat core x.1)).length (Ae Aq ((jiF (unL ms) ub p.N.toNat core x.1))) :: Aa p4 (E4 p) 23 :: ((ms).map UM.lres ++ (((ms).map (UM.fres p)).flatten ++ L))) G1) (fun x => p.N.toNat - x.1) ((0, none, 0)) O ⟨O, O, O, O, O, trivial⟩ ?_ ?_ ?_
        ·exact ⟨O, trivial⟩
        ·exact ⟨Nat.zero_le _, I⟩
        ·clear I; rintro ⟨i, A5, c5⟩ j w15 ⟨hi, I⟩; dsimp only at hi; refine Wh O<|I.v O O O (fun b74 hb74 => Od O<|Wq O<|?_); cases b74
         ·replace hb74 := dF hb74; refine Wu O O<|W.exit O<|Wq O<|Wq O<|?_; obtain rfl : i = p.N.toNat := by omega
          have hjl := Aiq (unL ms) ub p.N.toNat core p.N.toNat
          have hjl2 : p.N.toNat * (p.N.toNat + core.length) ≤ 16 * (16 + 1000) := Nat.mul_le_mul (by omega) (by omega); refine Wr O<|I.s O O<|I.y O (Y.lenS underlying25 O)<|I.u O O<|Od O<|Wb O<|?_; refine W.loop (γ := Nat × Option Addr × Nat) [(10, .pointer _), (107, .slice _ _ _), (108, .int _ _)] (fun x => [(109, .int .i64 (x.1 : Int))]) (fun x w => x.1 ≤ links.length ∧ St w0 F0 w (Aa p32 (wC p 0 (.slice (some ⟨ub, 0, none⟩) (unL ms).length uc) (.slice x.2.1 ((Ba (unL ms) ub (jiF (unL ms) ub p.N.toNat core p.N.toNat) (links.take x.1))).length x.2.2)) 86 :: Af (.slice (some ⟨ub, 0, none⟩) (unL ms).length uc) 96 4 (unL ms).length (Ae unC (unL ms)) :: Af (.slice x.2.1 ((Ba (unL ms) ub (jiF (unL ms) ub p.N.toNat core p.N.toNat) (links.take x.1))).length x.2.2) 77 2 ((Ba (unL ms) ub (jiF (unL ms) ub p.N.toNat core p.N.toNat) (links.take x.1))).length (Ae Aq ((Ba (unL ms) ub (jiF (unL ms) ub p.N.toNat core p.N.toNat) (links.take x.1)))) :: Aa p4 (E4 p) 23 :: ((ms).map UM.lres ++ (((ms).map (UM.fres p)).flatten ++ L))) G1) (fun x => links.length - x.1) ((0, A5, c5)) O ⟨O, O, O, trivial⟩ ?_ ?_ ?_
          ·exact ⟨O, trivial⟩
          ·exact ⟨Nat.zero_le _, I⟩
          ·clear I; rintro ⟨k, A5, c5⟩ j w30 ⟨hk2, I⟩; dsimp only at hk2; have hrl1 := hrl.moreG hG1; refine Wh O<|I.v O O O (fun b110 hb110 => Od O<|Wq O<|?_); cases b110
           ·replace hb110 := dF hb110; refine Wu O O<|W.exit O<|Wh O<|I.p O O<|I.y O (Y.assignP O)<|I.a O O<|Od O<|We O<|⟨_, Ac.two results20 O O, ?_⟩; obtain rfl : k = links.length := by omega
            have e0 : links.take links.length = links := List.take_length; rw [e0] at I; exact ⟨p32, ub, uc, A5, c5, ms, G1, O, hpu, hok, hG1, (I.sub (.cons_cons _ (.cons_cons _ (.cons_cons _ (.cons _ (.refl _))))))⟩
           ·replace hb110 := dT hb110; refine Wt O O<|Wk O<|Wq O<|Wb O<|Wq O<|?_; have hk1 : k < links.length := by omega
            have hsl := Md (unL ms) ub (jiF (unL ms) ub p.N.toNat core p.N.toNat) (links.take k); rw [List.length_take] at hsl; refine Wr O<|I.y O (Y.indexAddr underlying25 sizeOf77 O O ((hrl1.hd.sl I).ne (Bi Cc (by decide) (by omega))) (by omega))<|?_; refine I.y O (Y.loadSlA isAgg77 sizeOf77 O hrl1.hd (Bo Cc links k hk1) O)<|Ow O (X.allocA I zeroValue77 fun p18 w18 I => Ow O (X.storeS I 0 sizeOf77 O O O O O (lZ O) O O fun _ I => Od O<|Wr O<|I.p O O<|I.y O (Y.loadA 0 isAgg77 sizeOf77 O O O O)<|Oc O An3 O ?_)); refine Ab (Qu p32 p 0 ub (unL ms) uc (Fh (unL ms) ub) 1000000 (Jm (unL ms) ub) (Ba (unL ms) ub (jiF (unL ms) ub p.N.toNat core p.N.toNat) (links.take k)) (by omega) A5 c5 links[k] 30 A9q _ _ _ _ _ (I.up_3.up_2) (fun l hl A c y w L1 I => Nc p32 p 0 ub (unL ms) uc l hl A c y hul _ _ _ _ _ I (Rds.rowM (List.mem_append_right _ (.tail _ (.head _)))))) O ?_; clear I; rintro e w_b ⟨A6, c6, rfl, I⟩; replace I := I.dn2.dn3; refine ⟨_, O, ?_⟩; refine Od O<|Wr O<|I.j O O O (by omega)<|I.u O O<|Od O<|?_; have hst2 := (I.dr 1); have e1 := Pa (unL ms) ub (jiF (unL ms) ub p.N.toNat core p.N.toNat) links k hk1; exact ⟨(k + 1, A6, c6), ⟨O, trivial⟩, ⟨O, O, O, trivial⟩, ⟨by dsimp only; omega, by dsimp only; rw [e1]; exact hst2⟩, by dsimp only; omega⟩
         ·replace hb74 := dT hb74; refine Wt O O<|Wk O<|Wq O<|Wb O<|Wh O<|I.u O O<|I.a O O<|Od O<|Wq O<|Wq O<|?_; have hi1 : i < p.N.toNat := by omega
          have hjl := Aiq (unL ms) ub p.N.toNat core i; have hjl2 : i * (p.N.toNat + core.length) ≤ 16 * (16 + 1000) := Nat.mul_le_mul (by omega) (by omega); refine Wr O<|I.f F3 O O<|I.l 3 O O O O<|I.u O O<|Od O<|Wb O<|?_; refine W.loop (γ := Nat × Option Addr × Nat) [(2, .slice _ _ _), (3, .slice _ _ _), (4, .pointer _), (10, .pointer _), (13, .int _ _), (72, .int _ _), (73, .int _ _), (77, .int _ _)] (fun x => [(78, .int .i64 (x.1 : Int))]) (fun x w => x.1 ≤ p.N.toNat ∧ St w0 F0 w (Aa p32 (wC p 0 (.slice (some ⟨ub, 0, none⟩) (unL ms).length uc) (.slice x.2.1 ((jkF (unL ms) ub i (jiF (unL ms) ub p.N.toNat core i) x.1)).length x.2.2)) 86 :: Af (.slice (some ⟨ub, 0, none⟩) (unL ms).length uc) 96 4 (unL ms).length (Ae unC (unL ms)) :: Af (.slice x.2.1 ((jkF (unL ms) ub i (jiF (unL ms) ub p.N.toNat core i) x.1)).length x.2.2) 77 2 ((jkF (unL ms) ub i (jiF (unL ms) ub p.N.toNat core i) x.1)).length (Ae Aq ((jkF (unL ms) ub i (jiF (unL ms) ub p.N.toNat core i) x.1))) :: Aa p4 (E4 p) 23 :: ((ms).map UM.lres ++ (((ms).map (UM.fres p)).flatten ++ L))) G1) (fun x => p.N.toNat - x.1) ((0, A5, c5)) O ⟨O, O, O, O, O, O, O, O, trivial⟩ ?_ ?_ ?_
          ·exact ⟨O, trivial⟩
          ·exact ⟨Nat.zero_le _, I⟩
          ·clear I; rintro ⟨k, A5, c5⟩ j w18 ⟨hk2, I⟩; dsimp only at hk2; refine Wh O<|I.v O O O (fun b79 hb79 => Od O<|Wq O<|?_); cases b79
           ·replace hb79 := dF hb79; refine Wu O O<|W.exit O<|Wq O<|?_; obtain rfl : k = p.N.toNat := by omega
            have hkl := V6 (unL ms) ub i (jiF (unL ms) ub p.N.toNat core i) p.N.toNat
            refine Wr O<|I.s O O<|I.y O (Y.lenS underlying24 O)<|I.u O O<|Od O<|Wb O<|?_; refine W.loop (γ := Nat × Option Addr × Nat) [(2, .slice _ _ _), (3, .slice _ _ _), (4, .pointer _), (10, .pointer _), (13, .int _ _), (72, .int _ _), (73, .int _ _), (87, .slice _ _ _), (88, .int _ _)] (fun x => [(89, .int .i64 (x.1 : Int))]) (fun x w => x.1 ≤ core.length ∧ St w0 F0 w (Aa p32 (wC p 0 (.slice (some ⟨ub, 0, none⟩) (unL ms).length uc) (.slice x.2.1 ((jcF (unL ms) ub i (jkF (unL ms) ub i (jiF (unL ms) ub p.N.toNat core i) p.N.toNat) (core.take x.1))).length x.2.2)) 86 :: Af (.slice (some ⟨ub, 0, none⟩) (unL ms).length uc) 96 4 (unL ms).length (Ae unC (unL ms)) :: Af (.slice x.2.1 ((jcF (unL ms) ub i (jkF (unL ms) ub i (jiF (unL ms) ub p.N.toNat core i) p.N.toNat) (core.take x.1))).length x.2.2) 77 2 ((jcF (unL ms) ub i (jkF (unL ms) ub i (jiF (unL ms) ub p.N.toNat core i) p.N.toNat) (core.take x.1))).length (Ae Aq ((jcF (unL ms) ub i (jkF (unL ms) ub i (jiF (unL ms) ub p.N.toNat core i) p.N.toNat) (core.take x.1)))) :: Aa p4 (E4 p) 23 :: ((ms).map UM.lres ++ (((ms).map (UM.fres p)).flatten ++ L))) G1) (fun x => core.length - x.1) ((0, A5, c5)) O ⟨O, O, O, O, O, O, O, O, O, trivial⟩ ?_ ?_ ?_
            ·exact ⟨O, trivial⟩
            ·exact ⟨Nat.zero_le _, I⟩
            ·clear I; rintro ⟨k, A5, c5⟩ j w23 ⟨hk2, I⟩; dsimp only at hk2; have hrc1 := hrc.moreG hG1; refine Wh O<|I.v O O O (fun b90 hb90 => Od O<|Wq O<|?_); cases b90
             ·replace hb90 := dF hb90; refine Wu O O<|W.exit O<|Wr O<|I.j O O O (by omega)<|I.u O O<|Od O<|?_; have hst2 := I; obtain rfl : k = core.length := by omega
              have e0 : core.take core.length = core := List.take_length; rw [e0] at hst2; have e1 := Yb (unL ms) ub p.N.toNat core i; exact ⟨(i + 1, A5, c5), ⟨O, trivial⟩, ⟨O, O, O, O, O, trivial⟩, ⟨by dsimp only; omega, by dsimp only; rw [e1]; exact hst2⟩, by dsimp only; omega⟩
             ·replace hb90 := dT hb90; refine Wt O O<|Wk O<|Wq O<|Wb O<|Wq O<|?_; have hk1 : k < core.length := by omega
              have hcl2 := Ai9 (unL ms) ub i (jkF (unL ms) ub i (jiF (unL ms) ub p.N.toNat core i) p.N.toNat) (core.take k); rw [List.length_take] at hcl2; refine Wr rfl<|I.y rfl (Y.indexAddr underlying24 sizeOf3 rfl rfl ((hrc1.hd.sl I).ne (by simp [ivs]; omega)) (by omega))<|?_; refine I.y O (Y.cast (Y.loadSl isAgg3 O hrc1.hd (Ef hk1)) (congrArg (Value.int .i64) (show core.getD k 0 = core[k] by simp [hk1]))) ?_; refine I.a O O<|Ds O O<|I.u O O<|I.W O O O (fun b94 hb94 => I.b O O<|?_); cases b94
              ·replace hb94 := dF hb94; refine On O<|On O<|I.k O O O<|Od O<|Wu O O<|Wk O<|Wr O<|I.j O O O (by omega)<|I.u O O<|Od O<|?_; have hst2 := I; have e1 := (Rt (unL ms) ub i (jkF (unL ms) ub i (jiF (unL ms) ub p.N.toNat core i) p.N.toNat) core k hk1).trans (if_neg (fun h => hb94 h.1)); exact ⟨(k + 1, A5, c5), ⟨O, trivial⟩, ⟨O, O, O, O, O, O, O, O, O, trivial⟩, ⟨by dsimp only; omega, by dsimp only; rw [e1]; exact hst2⟩, by dsimp only; omega⟩
              ·replace hb94 := dT hb94; refine I.u O O<|I.v O O O (fun b97 hb97 => I.k O O O<|Od O<|?_); cases b97
               ·replace hb97 := dF hb97; refine Wu O O<|Wk O<|Wr O<|I.j O O O (by omega)<|I.u O O<|Od O<|?_; have hst2 := I; have e1 := (Rt (unL ms) ub i (jkF (unL ms) ub i (jiF (unL ms) ub p.N.toNat core i) p.N.toNat) core k hk1).trans (if_neg (fun h => hb97 h.2)); exact ⟨(k + 1, A5, c5), ⟨O, trivial⟩, ⟨O, O, O, O, O, O, O, O, O, trivial⟩, ⟨by dsimp only; omega, by dsimp only; rw [e1]; exact hst2⟩, by dsimp only; omega⟩
               ·replace hb97 := dT hb97; refine Wt O O<|Wr O<|I.p O O<|I.u O O<|I.u O O<|I.j O O O (by omega)<|I.y O (Hr O)<|Oc O A9q O ?_; refine Ab (Nc p32 p 0 ub (unL ms) uc (jcF (unL ms) ub i (jkF (unL ms) ub i (jiF (unL ms) ub p.N.toNat core i) p.N.toNat) (core.take k)) (by omega) A5 c5 ((i : Int), 16 + core[k]) hul _ _ _ _ _ I.up_2.up_1 (Rds.rowL 0 O)) O ?_; clear I; rintro e w_j ⟨A6, c6, rfl, I⟩; replace I := I.dn1.dn2; refine ⟨_, O, ?_⟩; refine Od O<|Wr O<|I.j O O O (by omega)<|I.u O O<|Od O<|?_; have hst2 := I; have e1 := (Rt (unL ms) ub i (jkF (unL ms) ub i (jiF (unL ms) ub p.N.toNat core i) p.N.toNat) core k hk1).trans (if_pos ⟨hb94, hb97⟩); exact ⟨(k + 1, A6, c6), ⟨O, trivial⟩, ⟨O, O, O, O, O, O, O, O, O, trivial⟩, ⟨by dsimp only; omega, by dsimp only; rw [e1]; exact hst2⟩, by dsimp only; omega⟩
           ·replace hb79 := dT hb79; refine Wt O O<|Wk O<|Wq O<|Wb O<|Wh O<|I.u O O<|I.a O O<|Od O<|?_; have hk1 : k < p.N.toNat := by omega
            have hkl := V6 (unL ms) ub i (jiF (unL ms) ub p.N.toNat core i) k; refine Wr O<|I.p O O<|I.u O O<|I.u O O<|I.y O (Hr O)<|Oc O A9q O ?_; refine Ab (Nc p32 p 0 ub (unL ms) uc (jkF (unL ms) ub i (jiF (unL ms) ub p.N.toNat core i) k) (by omega) A5 c5 ((i : Int), (k : Int)) hul _ _ _ _ _ I.up_2.up_1 (Rds.rowL 0 O)) O ?_; clear I; rintro e w_j ⟨A6, c6, rfl, I⟩; replace I := I.dn1.dn2; refine ⟨_, O, ?_⟩; refine Od O<|Wr O<|I.j O O O (by omega)<|I.u O O<|Od O<|?_; have hst2 := I; have e1 := Ru (unL ms) ub i (jiF (unL ms) ub p.N.toNat core i) k; exact ⟨(k + 1, A6, c6), ⟨O, trivial⟩, ⟨O, O, O, O, O, O, O, O, trivial⟩, ⟨by dsimp only; omega, by dsimp only; rw [e1]; exact hst2⟩, by dsimp only; omega⟩
       ·replace hb54 := dT hb54; refine Wt O O<|Wk O<|Wq O<|Wb O<|Wq O<|?_; have hk1 : k < nodes := by omega
        have hml : (unL ms).length = p.N.toNat + k := by have h1 := congrArg List.length hpu; unfold puL F6 Gv at h1; unfold unL; rw [List.length_map] at h1 ⊢; rw [h1]; simp
        refine Wr rfl<|I.u rfl rfl<|I.a rfl rfl<|Od rfl<|W.drawn rfl (by kernel_rfl) (Ctx _ _ ([Aa p32 (wC p 0 (.slice A5 (unL ms).length c5) (.slice none 0 0)) 86]) (G1)) [14] (.op 0 0 (.op 1 0 (.op 2 0 (.op 3 0 (.op 4 0 (.op 5 0 (.op 6 0 (.op 7 0 (.op 8 0 (.op 9 1 (.op 10 1 (.op 11 1 (.op 12 0 (.op 13 0 (.op 14 1 .nil))))))))))))))) rfl (by kernel_rfl) (Ctx.of_mem I.drew (by first | exact .head _ | exact .tail _ (.head _)) (by first | exact fun r hr => hr | exact hG2))<|?_; replace I := I.drew; generalize World.drew _ = wd at I ⊢; refine Dq rfl (Ctx.of_mem I (by first | exact .head _ | exact .tail _ (.head _)) (by first | exact fun r hr => hr | exact hG2)) (Y.moveP O) ?_; refine Dq rfl (Ctx.of_mem I (by first | exact .head _ | exact .tail _ (.head _)) (by first | exact fun r hr => hr | exact hG2)) (Y.moveP O) ?_; refine Dq rfl (Ctx.of_mem I (by first | exact .head _ | exact .tail _ (.head _)) (by first | exact fun r hr => hr | exact hG2)) (Y.nilCheck O) ?_; refine Dq rfl (Ctx.of_mem I (by first | exact .head _ | exact .tail _ (.head _)) (by first | exact fun r hr => hr | exact hG2)) (Y.fieldAddr I8 O) ?_; refine Dq rfl (Ctx.of_mem I (by first | exact .head _ | exact .tail _ (.head _)) (by first | exact fun r hr => hr | exact hG2)) (Y.load 0 isAgg84 O O O) ?_; refine Dq rfl (Ctx.of_mem I (by first | exact .head _ | exact .tail _ (.head _)) (by first | exact fun r hr => hr | exact hG2)) (Y.moveP O) ?_; refine Dq rfl (Ctx.of_mem I (by first | exact .head _ | exact .tail _ (.head _)) (by first | exact fun r hr => hr | exact hG2)) (Y.moveI O) ?_; refine Dq rfl (Ctx.of_mem I (by first | exact .head _ | exact .tail _ (.head _)) (by first | exact fun r hr => hr | exact hG2)) (Y.addI O O (by omega)) ?_; refine Dq rfl (Ctx.of_mem I (by first | exact .head _ | exact .tail _ (.head _)) (by first | exact fun r hr => hr | exact hG2)) (Bg2 O) ?_; refine Dw O (X.call Bj7 O ?_); refine Ab (N5 p32 p 0 _ _ hp (16 + (k : Int)) S00 none 0 (Cz Ek) _ _ _ _ _ I (hrn.moreG hG1)) O ?_; clear I; rintro e w65 ⟨m, G2, rfl, hmu, hG2, hmok, I⟩; replace I := St.newU (S := [_, _, _]) (M := ms.map UM.lres) (FF := ms.map (UM.fres p)) (F := m.fres p) (L := L) I; refine ⟨_, rfl, ⟨(Ctx.of_mem I (by first | exact .head _ | exact .tail _ (.head _)) (by first | exact fun r hr => hr | exact hG2)), ?_⟩⟩; refine Dw rfl (X.lit1 I underlying84 sizeOf96 zeroValue96 rfl rfl rfl fun p66 w66 I => ⟨(Ctx.of_mem I (by first | exact .head _ | exact .tail _ (.head _)) (by first | exact fun r hr => hr | exact hG2)), ?_⟩); refine Dw rfl (X.app I 2 0 underlying84 Az0 rfl rfl rfl rfl rfl rfl rfl rfl (by (try dsimp only); unfold maxLen; omega) (by (try dsimp only); omega) fun A67 c67 w67 I => ⟨(Ctx.of_mem I (by first | exact .head _ | exact .tail _ (.head _)) (by first | exact fun r hr => hr | exact hG2)), ?_⟩); refine Dq rfl (Ctx.of_mem I (by first | exact .head _ | exact .tail _ (.head _)) (by first | exact fun r hr => hr | exact hG2)) (Y.nilCheck O) ?_; refine Dq rfl (Ctx.of_mem I (by first | exact .head _ | exact .tail _ (.head _)) (by first | exact fun r hr => hr | exact hG2)) (Y.fieldAddr I8 O) ?_; refine Drw.z O O O O (X.storeV I 1 (.slice _ _ _) sizeOf84 O O O O (lZ O) O O fun _ I => Dd<|Wr O<|I.j O O O (by omega)<|I.u O O<|Od O<|?_); have hst2 := (I.dr 1); have e1 : unL (ms ++ [m]) = unL ms ++ [m.un] := by unfold unL; rw [List.map_append]; rfl
        have e2 : Ae unC (unL ms ++ [m.un]) = Ae unC (unL ms) ++ unC m.un := by rw [Cy]; simp [Ae]
        have e3 : (unL ms ++ [m.un]).length = (unL ms).length + 1 := by simp
        have e4 : (ms ++ [m]).map UM.lres = ms.map UM.lres ++ [m.lres] := by rw [List.map_append]; rfl
        have e5 : (ms ++ [m]).map (UM.fres p) = ms.map (UM.fres p) ++ [m.fres p] := by rw [List.map_append]; rfl
        have e6 : puL (ms ++ [m]) = puL ms ++ [m.u] := by unfold puL; rw [List.map_append]; rfl
        refine ⟨(k + 1, ms ++ [m], A67, c67, G2), ⟨O, trivial⟩, ⟨O, O, O, O, O, trivial⟩, ⟨⟨by dsimp only; omega, ?_, ?_, fun r hr => hG2 r (hG1 r hr)⟩, ?_⟩, by dsimp only; omega⟩
        ·dsimp only; rw [e6, hmu, hpu, Yu, List.append_assoc]
        ·intro x hx; rcases List.mem_append.1 hx with hx | hx
         ·exact (hok x hx).mono hG2
         ·rw [List.mem_singleton] at hx; subst hx; exact hmok
        ·dsimp only; rw [e1, e2, e3, e4, e5]; exact hst2
     ·replace hb36 := dT hb36; refine Wt O O<|Wk O<|Wq O<|Wb O<|Wq O<|?_; have hk1 : k < p.N.toNat := by omega
      have hml : (unL ms).length = k := by have h1 := congrArg List.length hpu; unfold puL F6 at h1; unfold unL; rw [List.length_map] at h1 ⊢; rw [h1]; simp
      refine Wr rfl<|I.u rfl rfl<|I.a rfl rfl<|Od rfl<|W.drawn rfl (by kernel_rfl) (Ctx _ _ ([Aa p32 (wC p 0 (.slice A5 (unL ms).length c5) (.slice none 0 0)) 86]) (G1)) [13] (.op 0 0 (.op 1 0 (.op 2 0 (.op 3 0 (.op 4 0 (.op 5 0 (.op 6 0 (.op 7 0 (.op 8 1 (.op 9 1 (.op 10 1 (.op 11 0 (.op 12 0 (.op 13 1 .nil)))))))))))))) rfl (by kernel_rfl) (Ctx.of_mem I.drew (by first | exact .head _ | exact .tail _ (.head _)) (by first | exact fun r hr => hr | exact hG2))<|?_; replace I := I.drew; generalize World.drew _ = wd at I ⊢; refine Dq rfl (Ctx.of_mem I (by first | exact .head _ | exact .tail _ (.head _)) (by first | exact fun r hr => hr | exact hG2)) (Y.moveP O) ?_; refine Dq rfl (Ctx.of_mem I (by first | exact .head _ | exact .tail _ (.head _)) (by first | exact fun r hr => hr | exact hG2)) (Y.moveP O) ?_; refine Dq rfl (Ctx.of_mem I (by first | exact .head _ | exact .tail _ (.head _)) (by first | exact fun r hr => hr | exact hG2)) (Y.nilCheck O) ?_; refine Dq rfl (Ctx.of_mem I (by first | exact .head _ | exact .tail _ (.head _)) (by first | exact fun r hr => hr | exact hG2)) (Y.fieldAddr I8 O) ?_; refine Dq rfl (Ctx.of_mem I (by first | exact .head _ | exact .tail _ (.head _)) (by first | exact fun r hr => hr | exact hG2)) (Y.load 0 isAgg84 O O O) ?_; refine Dq rfl (Ctx.of_mem I (by first | exact .head _ | exact .tail _ (.head _)) (by first | exact fun r hr => hr | exact hG2)) (Y.moveP O) ?_; refine Dq rfl (Ctx.of_mem I (by first | exact .head _ | exact .tail _ (.head _)) (by first | exact fun r hr => hr | exact hG2)) (Y.moveI O) ?_; refine Dq rfl (Ctx.of_mem I (by first | exact .head _ | exact .tail _ (.head _)) (by first | exact fun r hr => hr | exact hG2)) (Bg2 O) ?_; refine Dw O (X.call Bj7 O ?_); refine Ab (N5 p32 p 0 _ _ hp ((k : Int)) S00 none 0 (Cz Ek) _ _ _ _ _ I (hrn.moreG hG1)) O ?_; clear I; rintro e w46 ⟨m, G2, rfl, hmu, hG2, hmok, I⟩; replace I := St.newU (S := [_, _, _]) (M := ms.map UM.lres) (FF := ms.map (UM.fres p)) (F := m.fres p) (L := L) I; refine ⟨_, rfl, ⟨(Ctx.of_mem I (by first | exact .head _ | exact .tail _ (.head _)) (by first | exact fun r hr => hr | exact hG2)), ?_⟩⟩; refine Dw rfl (X.lit1 I underlying84 sizeOf96 zeroValue96 rfl rfl rfl fun p47 w47 I => ⟨(Ctx.of_mem I (by first | exact .head _ | exact .tail _ (.head _)) (by first | exact fun r hr => hr | exact hG2)), ?_⟩); refine Dw rfl (X.app I 2 0 underlying84 Az0 rfl rfl rfl rfl rfl rfl rfl rfl (by (try dsimp only); unfold maxLen; omega) (by (try dsimp only); omega) fun A48 c48 w48 I => ⟨(Ctx.of_mem I (by first | exact .head _ | exact .tail _ (.head _)) (by first | exact fun r hr => hr | exact hG2)), ?_⟩); refine Dq rfl (Ctx.of_mem I (by first | exact .head _ | exact .tail _ (.head _)) (by first | exact fun r hr => hr | exact hG2)) (Y.nilCheck O) ?_; refine Dq rfl (Ctx.of_mem I (by first | exact .head _ | exact .tail _ (.head _)) (by first | exact fun r hr => hr | exact hG2)) (Y.fieldAddr I8 O) ?_; refine Drw.z O O O O (X.storeV I 1 (.slice _ _ _) sizeOf84 O O O O (lZ O) O O fun _ I => Dd<|Wr O<|I.j O O O (by omega)<|I.u O O<|Od O<|?_); have hst2 := (I.dr 1); have e1 : unL (ms ++ [m]) = unL ms ++ [m.un] := by unfold unL; rw [List.map_append]; rfl
      have e2 : Ae unC (unL ms ++ [m.un]) = Ae unC (unL ms) ++ unC m.un := by rw [Cy]; simp [Ae]
      have e3 : (unL ms ++ [m.un]).length = (unL ms).length + 1 := by simp
      have e4 : (ms ++ [m]).map UM.lres = ms.map UM.lres ++ [m.lres] := by rw [List.map_append]; rfl
      have e5 : (ms ++ [m]).map (UM.fres p) = ms.map (UM.fres p) ++ [m.fres p] := by rw [List.map_append]; rfl
      have e6 : puL (ms ++ [m]) = puL ms ++ [m.u] := by unfold puL; rw [List.map_append]; rfl
      refine ⟨(k + 1, ms ++ [m], A48, c48, G2), ⟨O, trivial⟩, ⟨O, O, O, O, O, O, trivial⟩, ⟨⟨by dsimp only; omega, ?_, ?_, fun r hr => hG2 r (hG1 r hr)⟩, ?_⟩, by dsimp only; omega⟩
      ·dsimp only; rw [e6, hmu, hpu, Xw]
      ·intro x hx; rcases List.mem_append.1 hx with hx | hx
       ·exact (hok x hx).mono hG2
       ·rw [List.mem_singleton] at hx; subst hx; exact hmok
      ·dsimp only; rw [e1, e2, e3, e4, e5]; exact hst2
   ·replace hb28 := dT hb28; exfalso; omega
  ·replace hb24 := dT hb24; exfalso; omega
 ·replace hb21 := dT hb21; exact absurd O hb21
end
section
open Tryz Go.RowKit YtaanjifekgfemaaGreat.K YtaanjifekgfemaaGreat.W YtaanjifekgfemaaGreat.LN
structure Sd where
  s : Stt
  A : Option Addr
  cap : Nat
def sdC (x : Sd) : List Value := Fk x.s x.A x.cap
theorem Qc (x : Sd) : (sdC x).length = 11 := rfl
structure Cs where
  p : Par
  time : Int
  nodes : Int
  core : List Int
  links : List (Int × Int)
  states : List Sd
  frames : List Li
  noise : List Int
  lies : List ByteArray
  a3 : Sla
  a4 : Sla
  a5 : Sla
  a6 : Sla
  a7 : Sla
  a8 : Sla
def csC (c : Cs) : List Value := E4 c.p ++ [.int .i64 c.time, .int .i64 c.nodes, .slice c.a3.1 c.core.length c.a3.2, .slice c.a4.1 c.links.length c.a4.2, .slice c.a5.1 c.states.length c.a5.2, .slice c.a6.1 c.frames.length c.a6.2, .slice c.a7.1 c.noise.length c.a7.2, .slice c.a8.1 c.lies.length c.a8.2]
structure Cs.In (G : List Res) (c : Cs) : Prop where
  core : Rds [] G (.slice c.a3.1 c.core.length c.a3.2) c.core.length (ivs c.core)
  links : Rds [] G (.slice c.a4.1 c.links.length c.a4.2) c.links.length (Ae Aq c.links)
  states : Rds [] G (.slice c.a5.1 c.states.length c.a5.2) c.states.length (Ae sdC c.states)
  frames : Rds [] G (.slice c.a6.1 c.frames.length c.a6.2) c.frames.length (Ae liC c.frames)
  noise : Rds [] G (.slice c.a7.1 c.noise.length c.a7.2) c.noise.length (ivs c.noise)
  lies : Rds [] G (.slice c.a8.1 c.lies.length c.a8.2) c.lies.length (Mm c.lies)
  tabs : ∀ x ∈ c.states, (∀ y ∈ x.s.tab, Bz y.1 ∧ Bz y.2) ∧ Rds [] G (.slice x.A x.s.tab.length x.cap) x.s.tab.length (lcs x.s.tab)
  sizes : (∀ x ∈ c.frames, x.text.size ≤ 140737488355328) ∧ ∀ x ∈ c.lies, x.size ≤ 140737488355328
theorem Cs.In.mono {G G' : List Res} {c : Cs} (h : c.In G) (hG : ∀ r ∈ G, r ∈ G') : c.In G' :=
 ⟨h.core.moreG hG, h.links.moreG hG, h.states.moreG hG, h.frames.moreG hG, h.noise.moreG hG, h.lies.moreG hG, fun x hx => ⟨(h.tabs x hx).1, (h.tabs x hx).2.moreG hG⟩, h.sizes⟩
structure Cs.Small (c : Cs) (beats : Int) : Prop where
  ok : c.p.Ok
  N : c.p.N ≤ 7
  D : c.p.D ≤ 5
  nodes : 0 ≤ c.nodes ∧ c.nodes ≤ 6
  time : -1125899906842624 ≤ c.time ∧ c.time ≤ 1125899906842624
  beats : 0 ≤ beats ∧ beats ≤ 30
  settle : settle c.p ≤ 80
  core : c.core.length ≤ 20
  links : c.links.length ≤ 40
  states : c.states.length ≤ 20
  frames : c.frames.length ≤ 40
  noise : c.noise.length ≤ 1000
  lies : c.lies.length ≤ 40
  tabs : ∀ x ∈ c.states, x.s.tab.length ≤ 128
  texts : (∀ x ∈ c.frames, x.text.size ≤ 65536) ∧ ∀ x ∈ c.lies, x.size ≤ 65536
def sizes (l : List Nat) : Nat := l.foldl (· + ·) 0
end
section
open Tryz Go.RowKit YtaanjifekgfemaaGreat.K YtaanjifekgfemaaGreat.W YtaanjifekgfemaaGreat.LN
attribute [local irreducible] Bg Ak Bb sub neg mag Da mul Dy
theorem Jy : FA 30 0 0 := fun _ _ => by simp [Instr.fieldAt, Instr.sureAddr, go_sem]
theorem Ab3 : FA 30 1 12 := fun _ _ => by simp [Instr.fieldAt, Instr.sureAddr, go_sem]
theorem Vr : FA 30 2 13 := fun _ _ => by simp [Instr.fieldAt, Instr.sureAddr, go_sem]
theorem Ax3 : FA 30 3 14 := fun _ _ => by simp [Instr.fieldAt, Instr.sureAddr, go_sem]
theorem Ax4 : FA 30 4 15 := fun _ _ => by simp [Instr.fieldAt, Instr.sureAddr, go_sem]
theorem Vs : FA 30 5 16 := fun _ _ => by simp [Instr.fieldAt, Instr.sureAddr, go_sem]
theorem Vt : FA 30 6 17 := fun _ _ => by simp [Instr.fieldAt, Instr.sureAddr, go_sem]
theorem Vu : FA 30 7 18 := fun _ _ => by simp [Instr.fieldAt, Instr.sureAddr, go_sem]
theorem Q6 : FA 30 8 19 := fun _ _ => by simp [Instr.fieldAt, Instr.sureAddr, go_sem]
theorem Br4 : CF 23 := fun _ _ => by simp [go_sem]
set_option maxHeartbeats 4000000 in
theorem T5 (c : Cs) (beats : Int) (w0 w : World) (F0 : List Nat) (L G : List Res) (I : St w0 F0 w L G) (hin : c.In G) :
    Calls Tryz.prog 7 #[.agg (csC c).toArray, .int .i64 beats] w fun e w' => ∃ b, e = .returned (.bool b) ∧ (b = false → c.Small beats) ∧ St w0 F0 w' L G := by
  refine W.func func7 O ntmps7 O<|Wh O<|Ow O (X.boxA I O fun p2 w2 I => I.g O O<|Ds O O<|I.f Jy O O<|I.y O (Y.loadA 0 isAgg23 sizeOf23 O O O O)<|Ow O (X.allocA I zeroValue23 fun p5 w5 I => Ow O (X.storeS I 0 sizeOf23 O O O O O (lZ O) O O fun _ I => Od O<|Wq O<|Wq O<|?_))); refine W.cut [(2, .pointer _)] (fun x : Bool => [(60, .bool x)]) (fun x w => (x = false → c.p.Ok ∧ c.p.N ≤ 7 ∧ c.p.D ≤ 5 ∧ (0 ≤ c.nodes ∧ c.nodes ≤ 6) ∧ (-1125899906842624 ≤ c.time ∧ c.time ≤ 1125899906842624) ∧ (0 ≤ beats ∧ beats ≤ 30) ∧ settle c.p ≤ 80) ∧ St w0 F0 w (Aa p5 (E4 c.p) 23 :: Aa p2 (csC c) 30 :: L) G) ⟨O, trivial⟩ ?_ ?_
  rotate_left
  · clear I; rintro b60 j w60 ⟨hb60', I⟩; have hb60 : b60 = decide (b60 = true) := by (cases b60 <;> rfl)
    cases b60
    · replace hb60 := dF hb60; refine Wu O O<|Wk O<|Wq O<|Wq O<|?_; obtain ⟨hok, hN, hD, hnd, htm, hbt, hse⟩ := hb60' rfl; refine W.cut [(2, .pointer _)] (fun x : Bool => [(94, .bool x)]) (fun x w => (x = false → c.core.length ≤ 20 ∧ c.links.length ≤ 40 ∧ c.states.length ≤ 20 ∧ c.frames.length ≤ 40 ∧ c.noise.length ≤ 1000 ∧ c.lies.length ≤ 40) ∧ St w0 F0 w (Aa p5 (E4 c.p) 23 :: Aa p2 (csC c) 30 :: L) G) ⟨O, trivial⟩ ?_ ?_
      rotate_left
      · clear I; rintro b94 j w94 ⟨hb94', I⟩; have hb94 : b94 = decide (b94 = true) := by (cases b94 <;> rfl)
        cases b94
        · replace hb94 := dF hb94; refine Wu O O<|Wk O<|Wq O<|Wq O<|?_; obtain ⟨l3, l4, l5, l6, l7, l8⟩ := hb94' rfl; refine Wr O<|I.f Vs O O<|I.y O (Y.load 1 isAgg26 O O O)<|I.y O (Y.lenS underlying26 O)<|I.u O O<|Od O<|Wb O<|?_; refine W.loop (γ := Nat) [(2, .pointer _), (96, .slice _ _ _), (97, .int _ _)] (fun k => [(98, .int .i64 (k : Int))]) (fun k w => (k ≤ c.states.length ∧ ∀ j (h : j < c.states.length), j < k → c.states[j].s.tab.length ≤ 128) ∧ St w0 F0 w (Aa p5 (E4 c.p) 23 :: Aa p2 (csC c) 30 :: L) G) (fun k => c.states.length - k) (0) O ⟨O, O, O, trivial⟩ ?_ ?_ ?_
          · exact ⟨O, trivial⟩
          · exact ⟨⟨by omega, fun j _ h => by omega⟩, I⟩
          · clear I; rintro k j w7 ⟨⟨hk, ht⟩, I⟩; refine Wh O<|I.v O O O (fun b99 hb99 => Od O<|Wq O<|?_); cases b99
            · replace hb99 := dF hb99; refine Wu O O<|W.exit O<|Wh O<|I.a O O<|Od O<|Wq O<|Wh O<|I.f Vt O O<|I.y O (Y.load 1 isAgg27 O O O)<|I.y O (Y.lenS underlying27 O)<|I.u O O<|Od O<|Wb O<|?_; refine W.loop (γ := Nat × Int) [(2, .pointer _), (108, .slice _ _ _), (109, .int _ _)] (fun x => [(110, .int .i64 (x.1 : Int)), (8, .int .i64 x.2)]) (fun x w => (x.1 ≤ c.frames.length ∧ (0 ≤ x.2 ∧ x.2 ≤ 65536) ∧ ∀ j (h : j < c.frames.length), j < x.1 → c.frames[j].text.size ≤ 65536) ∧ St w0 F0 w (Aa p5 (E4 c.p) 23 :: Aa p2 (csC c) 30 :: L) G) (fun x => c.frames.length - x.1) ((0, 0)) O ⟨O, O, O, trivial⟩ ?_ ?_ ?_
              · exact ⟨O, O, trivial⟩
              · exact ⟨⟨Nat.zero_le _, by decide, fun j _ h => absurd h (Nat.not_lt_zero _)⟩, I⟩
              · clear I; rintro ⟨k, n⟩ j w14 ⟨⟨hk, hn, hf⟩, I⟩; dsimp only at hk hn hf; refine Wh O<|I.v O O O (fun b111 hb111 => Od O<|Wq O<|?_); cases b111
                · replace hb111 := dF hb111; refine Wu O O<|W.exit O<|Wq O<|Wh O<|I.f Q6 O O<|I.y O (Y.load 1 isAgg28 O O O)<|I.y O (Y.lenS underlying28 O)<|I.u O O<|Od O<|Wb O<|?_; refine W.loop (γ := Nat × Int) [(123, .slice _ _ _), (124, .int _ _)] (fun x => [(125, .int .i64 (x.1 : Int)), (8, .int .i64 x.2)]) (fun x w => (x.1 ≤ c.lies.length ∧ (0 ≤ x.2 ∧ x.2 ≤ 65536) ∧ ∀ j (h : j < c.lies.length), j < x.1 → c.lies[j].size ≤ 65536) ∧ St w0 F0 w (Aa p5 (E4 c.p) 23 :: Aa p2 (csC c) 30 :: L) G) (fun x => c.lies.length - x.1) ((0, n)) O ⟨O, O, trivial⟩ ?_ ?_ ?_
                  · exact ⟨O, O, trivial⟩
                  · exact ⟨⟨Nat.zero_le _, hn, fun j _ h => absurd h (Nat.not_lt_zero _)⟩, I⟩
                  · clear I; rintro ⟨k2, n2⟩ j w21 ⟨⟨hk2, hn2, hf2⟩, I⟩; dsimp only at hk2 hn2 hf2; refine Wh O<|I.v O O O (fun b126 hb126 => Od O<|Wq O<|?_); cases b126
                    · replace hb126 := dF hb126; refine Wu O O<|W.exit O<|Wh O<|I.g O O<|Od O<|We O<|⟨_, Ac.one results7 O, ?_⟩
                      first
                      | exact ⟨true, O, (fun h => by cases h), (I.dr 2)⟩
                      | (refine ⟨false, O, fun _ => ⟨hok, hN, hD, hnd, htm, hbt, hse, l3, l4, l5, l6, l7, l8, ?_, ?_, ?_⟩, (I.dr 2)⟩
                         · intro x hx; obtain ⟨j, hj, rfl⟩ := List.getElem_of_mem hx; exact ht j hj (by omega)
                         · intro x hx; obtain ⟨j, hj, rfl⟩ := List.getElem_of_mem hx; exact hf j hj (by dsimp only at *; omega)
                         · intro x hx; obtain ⟨j, hj, rfl⟩ := List.getElem_of_mem hx
                           exact hf2 j hj (by dsimp only at *; omega))
                    · replace hb126 := dT hb126; refine Wt O O<|Wk O<|Wq O<|Wb O<|Wq O<|?_; have hk1 : k2 < c.lies.length := by omega
                      have hsz := hin.sizes.2 _ (List.getElem_mem hk1); refine Wr rfl<|I.y rfl (Y.indexAddr underlying28 sizeOf9 rfl rfl ((hin.lies.hd.sl I).ne (by simp [Mm]; omega)) (by omega))<|?_; refine I.y rfl (Y.loadSl isAgg9 rfl hin.lies.hd (K8 (k := k2) hk1))<|I.y rfl (Y.assignT rfl)<|Ds rfl rfl<|I.u rfl rfl<|I.y rfl (Y.moveT rfl)<|I.y rfl (Y.lenT underlying9 rfl)<|I.y rfl (Y.addI rfl rfl (by dsimp only; omega))<|?_; refine I.a O O<|Ds O O<|I.u O O<|I.V O O O (fun b134 hb134 => Od O<|?_); cases b134
                      · replace hb134 := dF hb134; refine Wu O O<|Wk O<|Wr O<|I.j O O O (by omega)<|I.u O O<|Od O<|?_; refine ⟨(k2 + 1, n2 + c.lies[k2].size), ⟨O, O, trivial⟩, ⟨O, O, trivial⟩, ⟨⟨by dsimp only; omega, by dsimp only at hb134 ⊢; omega, fun j hj h => ?_⟩, I⟩, by dsimp only; omega⟩; dsimp only at h hb134; rcases (show j < k2 ∨ j = k2 by omega) with h | rfl
                        · exact hf2 j hj h
                        · omega
                      · replace hb134 := dT hb134; refine Wt O O<|Wh O<|I.g O O<|Od O<|We O<|⟨_, Ac.one results7 O, ?_⟩
                        first
                        | exact ⟨true, O, (fun h => by cases h), (I.dr 2)⟩
                        | (refine ⟨false, O, fun _ => ⟨hok, hN, hD, hnd, htm, hbt, hse, l3, l4, l5, l6, l7, l8, ?_, ?_, ?_⟩, (I.dr 2)⟩
                           · intro x hx; obtain ⟨j, hj, rfl⟩ := List.getElem_of_mem hx; exact ht j hj (by omega)
                           · intro x hx; obtain ⟨j, hj, rfl⟩ := List.getElem_of_mem hx; exact hf j hj (by dsimp only at *; omega)
                           · intro x hx; obtain ⟨j, hj, rfl⟩ := List.getElem_of_mem hx
                             exact hf2 j hj (by dsimp only at *; omega))
                · replace hb111 := dT hb111; refine Wt O O<|Wk O<|Wq O<|Wb O<|Wq O<|?_; have hk1 : k < c.frames.length := by omega
                  have hsz := hin.sizes.1 _ (List.getElem_mem hk1); refine Wr O<|I.y O (Y.indexAddr underlying27 sizeOf79 O O ((hin.frames.hd.sl I).ne (Bi Lh (by decide) (by omega))) (by omega))<|?_; refine I.y rfl (Y.loadSlA isAgg79 sizeOf79 rfl hin.frames.hd (Bo Lh c.frames k hk1) rfl)<|Ow rfl (X.allocA I zeroValue79 fun p10 w10 I => Ow rfl (X.storeS I 0 sizeOf79 rfl rfl rfl rfl rfl (lZ rfl) rfl rfl fun _ I => Ds rfl rfl<|I.u rfl rfl<|I.f Abx rfl rfl<|I.y rfl (Y.load 0 isAgg9 rfl rfl rfl)<|I.y rfl (Y.lenT underlying9 rfl)<|I.y rfl (Y.addI rfl rfl (by dsimp only; omega))<|?_)); refine I.a O O<|Ds O O<|I.u O O<|I.V O O O (fun b120 hb120 => Od O<|?_); cases b120
                  · replace hb120 := dF hb120; refine Wu O O<|Wk O<|Wr O<|I.j O O O (by omega)<|I.u O O<|Od O<|?_; refine ⟨(k + 1, n + c.frames[k].text.size), ⟨O, O, trivial⟩, ⟨O, O, O, trivial⟩, ⟨⟨by dsimp only; omega, by dsimp only at hb120 ⊢; omega, fun j hj h => ?_⟩, (I.dr 1)⟩, by dsimp only; omega⟩; dsimp only at h hb120; rcases (show j < k ∨ j = k by omega) with h | rfl
                    · exact hf j hj h
                    · omega
                  · replace hb120 := dT hb120; refine Wt O O<|Wh O<|I.g O O<|Od O<|We O<|⟨_, Ac.one results7 O, ?_⟩
                    first
                    | exact ⟨true, O, (fun h => by cases h), (I.dr 3)⟩
                    | (refine ⟨false, O, fun _ => ⟨hok, hN, hD, hnd, htm, hbt, hse, l3, l4, l5, l6, l7, l8, ?_, ?_, ?_⟩, (I.dr 3)⟩
                       · intro x hx; obtain ⟨j, hj, rfl⟩ := List.getElem_of_mem hx; exact ht j hj (by omega)
                       · intro x hx; obtain ⟨j, hj, rfl⟩ := List.getElem_of_mem hx; exact hf j hj (by dsimp only at *; omega)
                       · intro x hx; obtain ⟨j, hj, rfl⟩ := List.getElem_of_mem hx
                         exact hf2 j hj (by dsimp only at *; omega))
            · replace hb99 := dT hb99; refine Wt O O<|Wk O<|Wq O<|Wb O<|Wq O<|?_; have hk1 : k < c.states.length := by omega
              refine Wr O<|I.y O (Y.indexAddr underlying26 sizeOf57 O O ((hin.states.hd.sl I).ne (Bi Qc (by decide) (by omega))) (by omega))<|?_; refine I.y O (Y.loadSlA isAgg57 sizeOf57 O hin.states.hd (Bo Qc c.states k hk1) O)<|Ow O (X.allocA I zeroValue57 fun p7 w7 I => Ow O (X.storeS I 0 sizeOf57 O O O O O (lZ O) O O fun _ I => Ds O O<|I.f I7 O O<|I.y O (Y.load 0 isAgg41 O O O)<|I.y O (Y.lenS underlying41 O)<|I.V O O O (fun b105 hb105 => Od O<|?_))); cases b105
              · replace hb105 := dF hb105; refine Wu O O<|Wk O<|Wr O<|I.j O O O (by omega)<|I.u O O<|Od O<|?_; refine ⟨k + 1, ⟨O, trivial⟩, ⟨O, O, O, trivial⟩, ⟨⟨by omega, fun j hj h => ?_⟩, (I.dr 1)⟩, by omega⟩; rcases (show j < k ∨ j = k by omega) with h | rfl
                · exact ht j hj h
                · omega
              · replace hb105 := dT hb105; refine Wt O O<|Wh O<|I.g O O<|Od O<|We O<|⟨_, Ac.one results7 O, ?_⟩
                first
                | exact ⟨true, O, (fun h => by cases h), (I.dr 3)⟩
                | (refine ⟨false, O, fun _ => ⟨hok, hN, hD, hnd, htm, hbt, hse, l3, l4, l5, l6, l7, l8, ?_, ?_, ?_⟩, (I.dr 3)⟩
                   · intro x hx; obtain ⟨j, hj, rfl⟩ := List.getElem_of_mem hx; exact ht j hj (by omega)
                   · intro x hx; obtain ⟨j, hj, rfl⟩ := List.getElem_of_mem hx; exact hf j hj (by dsimp only at *; omega)
                   · intro x hx; obtain ⟨j, hj, rfl⟩ := List.getElem_of_mem hx
                     exact hf2 j hj (by dsimp only at *; omega))
        · replace hb94 := dT hb94; refine Wt O O<|Wh O<|I.g O O<|Od O<|We O<|⟨_, Ac.one results7 O, ?_⟩
          first
          | exact ⟨true, O, (fun h => by cases h), (I.dr 2)⟩
          | (refine ⟨false, O, fun _ => ⟨hok, hN, hD, hnd, htm, hbt, hse, l3, l4, l5, l6, l7, l8, ?_, ?_, ?_⟩, (I.dr 2)⟩
             · intro x hx; obtain ⟨j, hj, rfl⟩ := List.getElem_of_mem hx; exact ht j hj (by omega)
             · intro x hx; obtain ⟨j, hj, rfl⟩ := List.getElem_of_mem hx; exact hf j hj (by dsimp only at *; omega)
             · intro x hx; obtain ⟨j, hj, rfl⟩ := List.getElem_of_mem hx
               exact hf2 j hj (by dsimp only at *; omega))
      refine Wr O<|I.f Ax3 O O<|I.y O (Y.load 1 isAgg24 O O O)<|I.y O (Y.lenS underlying24 O)<|I.V O O O (fun b64 hb64 => I.b O O<|?_); cases b64
      · replace hb64 := dF hb64; refine I.f Ax4 O O<|I.y O (Y.load 1 isAgg25 O O O)<|I.y O (Y.lenS underlying25 O)<|I.V O O O (fun b69 hb69 => I.k O O O<|I.b O O<|?_); cases b69
        · replace hb69 := dF hb69; refine I.f Vs O O<|I.y O (Y.load 1 isAgg26 O O O)<|I.y O (Y.lenS underlying26 O)<|I.V O O O (fun b75 hb75 => I.k O O O<|I.b O O<|?_); cases b75
          · replace hb75 := dF hb75; refine I.f Vt O O<|I.y O (Y.load 1 isAgg27 O O O)<|I.y O (Y.lenS underlying27 O)<|I.V O O O (fun b81 hb81 => I.k O O O<|I.b O O<|?_); cases b81
            · replace hb81 := dF hb81; refine I.f Vu O O<|I.y O (Y.load 1 isAgg24 O O O)<|I.y O (Y.lenS underlying24 O)<|I.V O O O (fun b87 hb87 => I.k O O O<|I.b O O<|?_); cases b87
              · replace hb87 := dF hb87; refine I.f Q6 O O<|I.y O (Y.load 1 isAgg28 O O O)<|I.y O (Y.lenS underlying28 O)<|I.V O O O (fun b93 hb93 => I.k O O O<|Od O<|?_); exact ⟨_, ⟨O, trivial⟩, ⟨O, trivial⟩, (fun h => by rw [h] at hb93; have := of_decide_eq_false hb93.symm; refine ⟨by omega, by omega, by omega, by omega, by omega, by omega⟩), I⟩
              · replace hb87 := dT hb87; refine On O<|On O<|On O<|On O<|I.k O O O<|Od O<|?_; exact ⟨true, ⟨O, trivial⟩, ⟨O, trivial⟩, (fun h => by cases h), I⟩
            · replace hb81 := dT hb81; refine On O<|On O<|On O<|On O<|I.k O O O<|I.b O O<|On O<|On O<|On O<|On O<|I.k O O O<|Od O<|?_; exact ⟨true, ⟨O, trivial⟩, ⟨O, trivial⟩, (fun h => by cases h), I⟩
          · replace hb75 := dT hb75; refine On O<|On O<|On O<|On O<|I.k O O O<|I.b O O<|On O<|On O<|On O<|On O<|I.k O O O<|I.b O O<|On O<|On O<|On O<|On O<|I.k O O O<|Od O<|?_; exact ⟨true, ⟨O, trivial⟩, ⟨O, trivial⟩, (fun h => by cases h), I⟩
        · replace hb69 := dT hb69; refine On O<|On O<|On O<|On O<|I.k O O O<|I.b O O<|On O<|On O<|On O<|On O<|I.k O O O<|I.b O O<|On O<|On O<|On O<|On O<|I.k O O O<|I.b O O<|On O<|On O<|On O<|On O<|I.k O O O<|Od O<|?_; exact ⟨true, ⟨O, trivial⟩, ⟨O, trivial⟩, (fun h => by cases h), I⟩
      · replace hb64 := dT hb64; refine On O<|On O<|On O<|On O<|I.k O O O<|I.b O O<|On O<|On O<|On O<|On O<|I.k O O O<|I.b O O<|On O<|On O<|On O<|On O<|I.k O O O<|I.b O O<|On O<|On O<|On O<|On O<|I.k O O O<|I.b O O<|On O<|On O<|On O<|On O<|I.k O O O<|Od O<|?_; exact ⟨true, ⟨O, trivial⟩, ⟨O, trivial⟩, (fun h => by cases h), I⟩
    · replace hb60 := dT hb60; refine Wt O O<|Wh O<|I.g O O<|Od O<|We O<|⟨_, Ac.one results7 O, ?_⟩
      first
      | exact ⟨true, O, (fun h => by cases h), (I.dr 2)⟩
      | (refine ⟨false, O, fun _ => ⟨hok, hN, hD, hnd, htm, hbt, hse, l3, l4, l5, l6, l7, l8, ?_, ?_, ?_⟩, (I.dr 2)⟩
         · intro x hx; obtain ⟨j, hj, rfl⟩ := List.getElem_of_mem hx; exact ht j hj (by omega)
         · intro x hx; obtain ⟨j, hj, rfl⟩ := List.getElem_of_mem hx; exact hf j hj (by dsimp only at *; omega)
         · intro x hx; obtain ⟨j, hj, rfl⟩ := List.getElem_of_mem hx
           exact hf2 j hj (by dsimp only at *; omega))
  refine Wr O<|I.y O (Y.loadA 0 isAgg23 sizeOf23 O O O O)<|Oc O Br3 O ?_; refine Ab (Tv c.p _ _ _ _ _ I) O ?_; clear I; rintro e w16 ⟨er, rfl, hch, I⟩; refine ⟨_, O, ?_⟩; refine I.yb O (Y.neq O O) (fun b17 hb17 => I.b O O<|?_); cases b17
  · replace hb17 := dF hb17; refine I.f F3 O O<|I.l 0 O O O O<|I.V O O O (fun b21 hb21 => I.k O O O<|I.b O O<|?_); cases b21
    · replace hb21 := dF hb21; refine I.f I4 O O<|I.l 0 O O O O<|I.V O O O (fun b26 hb26 => I.k O O O<|I.b O O<|?_); cases b26
      · replace hb26 := dF hb26; refine I.f Vr O O<|I.l 1 O O O O<|I.v O O O (fun b31 hb31 => I.k O O O<|I.b O O<|?_); cases b31
        · replace hb31 := dF hb31; refine I.f Vr O O<|I.l 1 O O O O<|I.V O O O (fun b36 hb36 => I.k O O O<|I.b O O<|?_); cases b36
          · replace hb36 := dF hb36; refine I.f Ab3 O O<|I.l 1 O O O O<|I.V O O O (fun b41 hb41 => I.k O O O<|I.b O O<|?_); cases b41
            · replace hb41 := dF hb41; refine I.f Ab3 O O<|I.l 1 O O O O<|I.v O O O (fun b46 hb46 => I.k O O O<|I.b O O<|?_); cases b46
              · replace hb46 := dF hb46; refine I.u O O<|I.v O O O (fun b50 hb50 => I.k O O O<|I.b O O<|?_); cases b50
                · replace hb50 := dF hb50; refine I.u O O<|I.V O O O (fun b54 hb54 => I.k O O O<|I.b O O<|?_); cases b54
                  · replace hb54 := dF hb54; refine I.y O (Y.loadA 0 isAgg23 sizeOf23 O O O O)<|Ow O (X.ret Br4 (Sn c.p _ _ _ _ _ I (hch.1 (Decidable.not_not.1 hb17))) O fun _ I => I.V O O O (fun b59 hb59 => I.k O O O<|Od O<|?_)); exact ⟨_, ⟨O, trivial⟩, ⟨O, trivial⟩, (fun h => ⟨hch.1 (Decidable.not_not.1 hb17), by omega, by omega, by omega, by omega, by omega, by rw [h] at hb59; have := of_decide_eq_false hb59.symm; omega⟩), I⟩
                  · replace hb54 := dT hb54; refine On O<|On O<|On O<|I.k O O O<|Od O<|?_; exact ⟨true, ⟨O, trivial⟩, ⟨O, trivial⟩, (fun h => by cases h), I⟩
                · replace hb50 := dT hb50; refine On O<|On O<|I.k O O O<|I.b O O<|On O<|On O<|On O<|I.k O O O<|Od O<|?_; exact ⟨true, ⟨O, trivial⟩, ⟨O, trivial⟩, (fun h => by cases h), I⟩
              · replace hb46 := dT hb46; refine On O<|On O<|I.k O O O<|I.b O O<|On O<|On O<|I.k O O O<|I.b O O<|On O<|On O<|On O<|I.k O O O<|Od O<|?_; exact ⟨true, ⟨O, trivial⟩, ⟨O, trivial⟩, (fun h => by cases h), I⟩
            · replace hb41 := dT hb41; refine On O<|On O<|On O<|I.k O O O<|I.b O O<|On O<|On O<|I.k O O O<|I.b O O<|On O<|On O<|I.k O O O<|I.b O O<|On O<|On O<|On O<|I.k O O O<|Od O<|?_; exact ⟨true, ⟨O, trivial⟩, ⟨O, trivial⟩, (fun h => by cases h), I⟩
          · replace hb36 := dT hb36; refine On O<|On O<|On O<|I.k O O O<|I.b O O<|On O<|On O<|On O<|I.k O O O<|I.b O O<|On O<|On O<|I.k O O O<|I.b O O<|On O<|On O<|I.k O O O<|I.b O O<|On O<|On O<|On O<|I.k O O O<|Od O<|?_; exact ⟨true, ⟨O, trivial⟩, ⟨O, trivial⟩, (fun h => by cases h), I⟩
        · replace hb31 := dT hb31; refine On O<|On O<|On O<|I.k O O O<|I.b O O<|On O<|On O<|On O<|I.k O O O<|I.b O O<|On O<|On O<|On O<|I.k O O O<|I.b O O<|On O<|On O<|I.k O O O<|I.b O O<|On O<|On O<|I.k O O O<|I.b O O<|On O<|On O<|On O<|I.k O O O<|Od O<|?_; exact ⟨true, ⟨O, trivial⟩, ⟨O, trivial⟩, (fun h => by cases h), I⟩
      · replace hb26 := dT hb26; refine On O<|On O<|On O<|I.k O O O<|I.b O O<|On O<|On O<|On O<|I.k O O O<|I.b O O<|On O<|On O<|On O<|I.k O O O<|I.b O O<|On O<|On O<|On O<|I.k O O O<|I.b O O<|On O<|On O<|I.k O O O<|I.b O O<|On O<|On O<|I.k O O O<|I.b O O<|On O<|On O<|On O<|I.k O O O<|Od O<|?_; exact ⟨true, ⟨O, trivial⟩, ⟨O, trivial⟩, (fun h => by cases h), I⟩
    · replace hb21 := dT hb21; refine On O<|On O<|On O<|I.k O O O<|I.b O O<|On O<|On O<|On O<|I.k O O O<|I.b O O<|On O<|On O<|On O<|I.k O O O<|I.b O O<|On O<|On O<|On O<|I.k O O O<|I.b O O<|On O<|On O<|On O<|I.k O O O<|I.b O O<|On O<|On O<|I.k O O O<|I.b O O<|On O<|On O<|I.k O O O<|I.b O O<|On O<|On O<|On O<|I.k O O O<|Od O<|?_; exact ⟨true, ⟨O, trivial⟩, ⟨O, trivial⟩, (fun h => by cases h), I⟩
  · replace hb17 := dT hb17; refine On O<|On O<|On O<|I.k O O O<|I.b O O<|On O<|On O<|On O<|I.k O O O<|I.b O O<|On O<|On O<|On O<|I.k O O O<|I.b O O<|On O<|On O<|On O<|I.k O O O<|I.b O O<|On O<|On O<|On O<|I.k O O O<|I.b O O<|On O<|On O<|On O<|I.k O O O<|I.b O O<|On O<|On O<|I.k O O O<|I.b O O<|On O<|On O<|I.k O O O<|I.b O O<|On O<|On O<|On O<|I.k O O O<|Od O<|?_; exact ⟨true, ⟨O, trivial⟩, ⟨O, trivial⟩, (fun h => by cases h), I⟩
end
section
open Tryz Go.RowKit YtaanjifekgfemaaGreat.K YtaanjifekgfemaaGreat.W YtaanjifekgfemaaGreat.LN
structure Wd where
  time : Int
  ub : Nat
  uc : Nat
  A : Option Addr
  lc : Nat
  links : List (Int × Int)
  ms : List UM
def Wd.res (x : Wd) (p : Par) (wb : Nat) (L : List Res) : List Res :=
  Aa wb (wC p x.time (.slice (some ⟨x.ub, 0, none⟩) (unL x.ms).length x.uc) (.slice x.A x.links.length x.lc)) 86 ::
  Af (.slice (some ⟨x.ub, 0, none⟩) (unL x.ms).length x.uc) 96 4 (unL x.ms).length (Ae unC (unL x.ms)) ::
  Af (.slice x.A x.links.length x.lc) 77 2 x.links.length (Ae Aq x.links) ::
  (x.ms.map UM.lres ++ ((x.ms.map (UM.fres p)).flatten ++ L))
def Ai (N nd : Nat) : List Int := (List.range N).map (fun (i : Nat) => (i : Int)) ++ (List.range nd).map fun (i : Nat) => 16 + (i : Int)
def E8 (ms : List UM) : List Int := ms.map fun m => m.u.who
structure Wd.Ok (x : Wd) (p : Par) (nd : Nat) (G : List Res) : Prop where
  ms : ∀ m ∈ x.ms, m.Ok p G
  who : E8 x.ms = Ai p.N.toNat nd
  links : B4 (unL x.ms) x.links
theorem Eu (N nd : Nat) : (Ai N nd).length = N + nd := by simp [Ai]
theorem S2 {N nd k : Nat} (h : k < N) : (Ai N nd)[k]? = some (k : Int) := by
 unfold Ai; rw [List.getElem?_append_left (by simpa using h), List.getElem?_map, List.getElem?_range h]; rfl
theorem A75 {N nd k : Nat} (h : k < nd) : (Ai N nd)[N + k]? = some (16 + (k : Int)) := by
 unfold Ai; rw [List.getElem?_append_right (by simp), List.getElem?_map]; simp [h]
theorem Ev {N nd : Nat} {who : Int} : who ∈ Ai N nd ↔ (0 ≤ who ∧ who < N) ∨ (16 ≤ who ∧ who < 16 + nd) := by
 unfold Ai; rw [List.mem_append, List.mem_map, List.mem_map]; constructor
 ·rintro (⟨i, hi, rfl⟩ | ⟨i, hi, rfl⟩)
  ·rw [List.mem_range] at hi; exact .inl (by omega)
  ·rw [List.mem_range] at hi; exact .inr (by omega)
 ·rintro (h | h)
  ·exact .inl ⟨who.toNat, List.mem_range.2 (by omega), by omega⟩
  ·exact .inr ⟨(who - 16).toNat, List.mem_range.2 (by omega), by omega⟩
theorem Wj {α : Type} {l : List α} (h : ∀ i j, i < l.length → j < l.length → l[i]? = l[j]? → i = j) : l.Nodup := by
 unfold List.Nodup; rw [List.pairwise_iff_getElem]; intro i j hi hj hij he; exact Nat.ne_of_lt hij (h i j hi hj (by rw [List.getElem?_eq_getElem hi, List.getElem?_eq_getElem hj, he]))
theorem Zt {N nd k : Nat} (h : k < N + nd) : (Ai N nd)[k]? = some (if k < N then (k : Int) else 16 + ((k - N : Nat) : Int)) := by
 by_cases h1 : k < N
 ·rw [if_pos h1]; exact S2 h1
 ·rw [if_neg h1]; have h2 := A75 (N := N) (nd := nd) (k := k - N) (by omega); rw [show N + (k - N) = k by omega] at h2; exact h2
theorem Zu {N nd : Nat} (hN : N ≤ 16) : (Ai N nd).Nodup := by
 refine Wj fun i j hi hj he => ?_; rw [Eu] at hi hj; rw [Zt hi, Zt hj] at he; injection he with he; split at he <;> split at he <;> omega
theorem E9 (ms : List UM) : (unL ms).map (fun u => u.who) = E8 ms := by
 unfold unL E8; rw [List.map_map]; rfl
theorem Cw (ms : List UM) : (unL ms).length = ms.length := by unfold unL; simp
theorem N8 {us : List Un} {ws : List Int} (h : us.map (fun u => u.who) = ws) (hn : ws.Nodup) {k : Nat} {who : Int} (hk : ws[k]? = some who) : Di (isU who) us = (k : Int) ∧ k < us.length := by
 subst h; rw [List.getElem?_map] at hk; obtain ⟨u, hu, rfl⟩ := Option.map_eq_some_iff.1 hk; obtain ⟨hk2, rfl⟩ := List.getElem?_eq_some_iff.1 hu; refine ⟨Io hk2 (by unfold isU; simp) ?_, hk2⟩; intro j hj hjk; unfold isU; refine decide_eq_false fun he => ?_; unfold List.Nodup at hn; rw [List.pairwise_iff_getElem] at hn; refine hn j k (by simpa using hj) (by simpa using hk2) hjk ?_; rw [List.getElem_map, List.getElem_map]; exact he
theorem V2 {us : List Un} {ws : List Int} (h : us.map (fun u => u.who) = ws) {who : Int} (hk : who ∉ ws) : Di (isU who) us = -1 := by
 subst h; refine Ip fun j hj => decide_eq_false fun he => hk ?_; exact List.mem_map.2 ⟨us[j], List.getElem_mem hj, he⟩
theorem J6 {us : List Un} {ws : List Int} (h : us.map (fun u => u.who) = ws) (hn : ws.Nodup) (l : List (Int × Int)) : B4 us l ↔ ∀ x ∈ l, x.2 ∈ ws := by
 constructor
 ·intro h1 x hx; obtain ⟨i, hi⟩ := h1 x hx; refine Classical.byContradiction fun hw => ?_; rw [V2 h hw] at hi; omega
 ·intro h1 x hx; obtain ⟨k, hk⟩ := List.getElem?_of_mem (h1 x hx); exact ⟨k, (N8 h hn hk).1⟩
theorem Zp {us : List Un} {ws : List Int} (h : us.map (fun u => u.who) = ws) (hn : ws.Nodup) (who : Int) (ub : Nat) : Gz us who ub ≠ none ↔ who ∈ ws := by
 unfold Gz; constructor
 ·intro h1; refine Classical.byContradiction fun hw => ?_; rw [V2 h hw] at h1; exact h1 rfl
 ·intro h1; obtain ⟨k, hk⟩ := List.getElem?_of_mem h1; rw [(N8 h hn hk).1, if_neg (by omega)]; exact fun h => by cases h
def Eg (ws : List Int) (l : List (Int × Int)) (y : Int × Int) : List (Int × Int) := if y.1 ≠ y.2 ∧ y.1 ∈ ws ∧ y.2 ∈ ws ∧ y ∉ l then l ++ [y] else l
theorem Acq {us : List Un} {ws : List Int} (h : us.map (fun u => u.who) = ws) (hn : ws.Nodup) (ub : Nat) : Fh us ub = Eg ws := by
 funext l y
 unfold Fh Eg Yc; simp only [Zp h hn]
section
variable {w0 w : World} {F0 : List Nat} {L G : List Res}
theorem Gh {α : Type} {l l' : List α} (h : ∀ (P : α → Bool), l.countP P = l'.countP P) : l.Perm l' := by
 classical
 refine List.perm_iff_count.2 fun a => ?_; unfold List.count; exact h _
theorem St.newAt {a u l x m0 : Res} {xs f0 M L : List Res} {F : List (List Res)} {i : Nat} (h : St w0 F0 w (a :: u :: x :: (xs ++ (l :: (M ++ (F.flatten ++ L))))) G) (hi : M[i]? = some m0) (hf : F[i]? = some f0) : St w0 F0 w (a :: u :: l :: (M.set i x ++ ((F.set i xs).flatten ++ L))) G := by
 have p1 : M.Perm (m0 :: M.eraseIdx i) := Hg hi; have p2 : (x :: M.eraseIdx i).Perm (M.set i x) := Gp hi; have p3 : F.flatten.Perm (f0 ++ (F.eraseIdx i).flatten) := Jz hf; have p4 : (xs ++ (F.eraseIdx i).flatten).Perm ((F.set i xs).flatten) := O5 hf
 have hp : (a :: u :: x :: (xs ++ (l :: (M ++ (F.flatten ++ L))))).Perm ((m0 :: f0) ++ (a :: u :: l :: (M.set i x ++ ((F.set i xs).flatten ++ L)))) := Gh fun P => by
  have c1 := p1.countP_eq P; have c2 := p2.countP_eq P; have c3 := p3.countP_eq P; have c4 := p4.countP_eq P; simp only [List.countP_append, List.countP_cons] at c1 c2 c3 c4 ⊢; omega
 have h2 := (h.perm hp).dr (m0 :: f0).length; rwa [List.drop_left] at h2
end
theorem Bf7 (p : Par) (N nd : Nat) {ms : List UM} (h : puL ms = F6 p N ++ Gv p nd) : E8 ms = Ai N nd := by
 have e : E8 ms = (puL ms).map fun u => u.who := by unfold E8 puL; rw [List.map_map]; rfl
 rw [e, h]; unfold F6 Gv Ai; rw [List.map_append, List.map_map, List.map_map]; rfl
theorem Wd.Ok.un {x : Wd} {p : Par} {nd : Nat} {G : List Res} (h : x.Ok p nd G) : (unL x.ms).map (fun u => u.who) = Ai p.N.toNat nd := (E9 _).trans h.who
theorem Wd.Ok.mono {x : Wd} {p : Par} {nd : Nat} {G G' : List Res} (h : x.Ok p nd G) (hG : ∀ r ∈ G, r ∈ G') : x.Ok p nd G' := ⟨fun m hm => (h.ms m hm).mono hG, h.who, h.links⟩
theorem Wd.Ok.len {x : Wd} {p : Par} {nd : Nat} {G : List Res} (h : x.Ok p nd G) : x.ms.length = p.N.toNat + nd := by
 have := congrArg List.length h.who; rw [Eu] at this; simpa [E8] using this
theorem Sb {qs : Qs} (h : ∀ q ∈ qs, ∀ x ∈ q, x.1.size ≤ 4096) (who : Int) (s : ByteArray) : ∀ q ∈ D4 qs who s, ∀ x ∈ q, x.1.size ≤ 4096 := by
 unfold D4; split
 ·rename_i hc; intro q hq; rcases List.mem_or_eq_of_mem_set hq with hq | rfl
  ·exact h q hq
  ·intro x hx; unfold Ae4 at hx; rw [List.mem_append, List.mem_singleton] at hx
   have hq2 : ∀ x ∈ qat qs who, x.1.size ≤ 4096 := Al5 h who.toNat
   rcases hx with hx | rfl
   ·split at hx
    ·exact hq2 x (List.mem_of_mem_tail hx)
    ·exact hq2 x hx
   ·exact hc.2
 ·exact h
theorem Zd {p : Par} {G : List Res} {m : UM} (h : m.Ok p G) {q : Qs} (hq : ∀ r ∈ q, ∀ x ∈ r, x.1.size ≤ 4096) : (m.setQs q).Ok p G := ⟨h.fit, h.tab, h.near, hq⟩
theorem Ar7 {p : Par} {G : List Res} (us : List Un) {ms : List UM} (h : ∀ m ∈ ms, m.Ok p G) (who : Int) (t : ByteArray) (to : Int) : ∀ m ∈ Je us ms who t to, m.Ok p G := by
 unfold Je R0; split
 ·rename_i m hm; intro x hx; rcases List.mem_or_eq_of_mem_set hx with hx | rfl
  ·exact h x hx
  ·have hm2 := h m (List.mem_of_getElem? hm); exact Zd hm2 (Sb hm2.qs _ _)
 ·exact h
theorem A59 {p : Par} {G : List Res} (us : List Un) (who : Int) (fr : ByteArray) (s : Stp) {ms : List UM} (h : ∀ m ∈ ms, m.Ok p G) (links : List (Int × Int)) : ∀ m ∈ Fi us who fr s ms links, m.Ok p G := by
  unfold Fi
  induction links generalizing ms with
  | nil => exact h
  | cons l ls ih =>
    refine ih ?_; unfold Js; split
    · exact h
    · exact Ar7 us h _ _ _
theorem Ae9 {p : Par} {G : List Res} (us : List Un) (s : Stp) (links : List (Int × Int)) (sd : List Hd) {ms : List UM} (h : ∀ m ∈ ms, m.Ok p G) (k : Nat) : ∀ m ∈ Cp us s links sd ms k, m.Ok p G := by
  induction k with
  | zero => exact h
  | succ k ih =>
    rw [Fw]; unfold Hh; split
    · split
      · exact ih
      · exact A59 us _ _ s ih links
    · exact ih
structure StepW (p : Par) (stp : Stp) (G G' : List Res) (x x' : Wd) : Prop where
  run : ∃ ms1 sd, RunS p stp (unL x.ms) x.ms G (unL x.ms).length ms1 sd G' ∧ x'.ms = Cp (unL x.ms) stp x'.links sd ms1 (unL x.ms).length
  time : x'.time = Bb [x.time, p.Beat]
  links : x'.links = Ba (unL x.ms) x.ub (Bp x.links stp.cut) stp.join
  un : unL x'.ms = unL x.ms
  ub : x'.ub = x.ub
theorem StepW.ok {p : Par} {stp : Stp} {G G' : List Res} {x x' : Wd} {nd : Nat} (h : StepW p stp G G' x x') (hx : x.Ok p nd G) (hN : p.N.toNat ≤ 16) : x'.Ok p nd G' := by
 obtain ⟨ms1, sd, hr, he⟩ := h.run; have hw : E8 x'.ms = Ai p.N.toNat nd := by rw [← E9, h.un, E9]; exact hx.who
 refine ⟨?_, hw, ?_⟩
 ·rw [he]; exact Ae9 _ _ _ _ hr.ok _
 ·rw [h.un, h.links]; exact Fq (fun l y h => Fs h y) (Fq (fun l y h => Pc h y) hx.links _) _
end
section
open Tryz Go.RowKit YtaanjifekgfemaaGreat.K YtaanjifekgfemaaGreat.W YtaanjifekgfemaaGreat.LN
attribute [local irreducible] Bg Ak Bb sub neg mag Da mul Dy
theorem Alq {x : Wd} {p : Par} {nd : Nat} {G : List Res} (hx : x.Ok p nd G) (hp : p.Ok) (hnd : nd ≤ 32) : (unL x.ms).length ≤ 48 := by have := hx.len; have := hp.N; rw [Cw]; omega
theorem Alx {x : Wd} {p : Par} {nd : Nat} {G : List Res} (hx : x.Ok p nd G) (hp : p.Ok) (hnd : nd ≤ 32) : ∀ m ∈ x.ms, 0 ≤ m.u.who ∧ m.u.who ≤ 47 := by
 intro m hm; have h1 : m.u.who ∈ E8 x.ms := List.mem_map.2 ⟨m, hm, rfl⟩; rw [hx.who, Ev] at h1; have := hp.N; omega
theorem Yr {p : Par} (hp : p.Ok) (nd : Nat) : (Ai p.N.toNat nd).Nodup := Zu (by have := hp.N; omega)
theorem Bn0 (t : Int) (wb : Nat) (p : Par) (hp : p.Ok) (nd : Nat) (hnd : nd ≤ 32) (x : Wd) (w0 w : World) (F0 : List Nat) (L G : List Res) (I : St w0 F0 w (x.res p wb L) G) (hx : x.Ok p nd G) :
  Calls Tryz.prog 24 #[.pointer (some ⟨wb, 0, none⟩), .int .i64 t] w fun e w' => e = .returned (.tuple #[]) ∧ St w0 F0 w' ({ x with time := Ak t }.res p wb L) G :=
 A7q wb p x.time x.ub (unL x.ms) x.uc x.A x.links.length x.lc t _ _ _ _ _ I
theorem Bf8 (wb : Nat) (p : Par) (hp : p.Ok) (nd : Nat) (hnd : nd ≤ 32) (x : Wd) (w0 w : World) (F0 : List Nat) (L G : List Res) (I : St w0 F0 w (x.res p wb L) G) (hx : x.Ok p nd G) :
  Calls Tryz.prog 44 #[.pointer (some ⟨wb, 0, none⟩)] w fun e w' => e = .returned (.int .i64 x.time) ∧ St w0 F0 w' (x.res p wb L) G :=
 Au3 wb p x.time x.ub (unL x.ms) x.uc x.A x.links.length x.lc _ _ _ _ _ I
theorem C8 (who : Int) (wb : Nat) (p : Par) (hp : p.Ok) (nd : Nat) (hnd : nd ≤ 32) (x : Wd) (w0 w : World) (F0 : List Nat) (L G : List Res) (I : St w0 F0 w (x.res p wb L) G) (hx : x.Ok p nd G) (k : Nat) (m : UM) (hk : x.ms[k]? = some m) (hwho : m.u.who = who) :
  Calls Tryz.prog 11 #[.pointer (some ⟨wb, 0, none⟩), .int .i64 who] w fun e w' => e = .returned (.pointer (some ⟨m.fb, 0, none⟩)) ∧ St w0 F0 w' (x.res p wb L) G := by
 have hw : (Ai p.N.toNat nd)[k]? = some who := by rw [← hx.who]; unfold E8; rw [List.getElem?_map, hk, ← hwho]; rfl
 obtain ⟨hi, hlt⟩ := N8 hx.un (Yr hp nd) hw; have hun : (unL x.ms)[k] = m.un := by have h1 := Ag1 (ms := x.ms) rfl hk; rw [List.getElem?_eq_getElem hlt] at h1; injection h1
 have h2 := Ay2 wb p x.time x.ub (unL x.ms) x.uc x.A x.links.length x.lc who (by have := Alq hx hp hnd; omega) k hi hlt _ _ _ _ _ I (Rds.rowL 0 rfl); rw [hun] at h2; exact h2
theorem Ah1 (who : Int) (s : Stt) (A : Option Addr) (cap : Nat) (hT : Bn s.tab) (wb : Nat) (p : Par) (hp : p.Ok) (nd : Nat) (hnd : nd ≤ 32) (x : Wd) (w0 w : World) (F0 : List Nat) (L G : List Res) (I : St w0 F0 w (x.res p wb L) G) (hx : x.Ok p nd G) (hr : Rds [] G (.slice A (s.tab).length cap) (s.tab).length (lcs (s.tab))) :
  Calls Tryz.prog 25 #[.pointer (some ⟨wb, 0, none⟩), .int .i64 who, .agg #[.int .i64 s.lo, .int .i64 s.hi, .int .i64 s.time, .bool s.set, .int .i64 s.held, .int .i64 s.hops, .bool s.good, .slice A s.tab.length cap, .int .i64 s.st, .int .i64 s.sn, .int .i64 s.life]] w fun e w' => ∃ (x' : Wd) (G' : List Res), e = .returned (.tuple #[]) ∧ x'.Ok p nd G' ∧ (∀ r ∈ G, r ∈ G') ∧ x'.time = x.time ∧ x'.links = x.links ∧ St w0 F0 w' (x'.res p wb L) G' := by
 have hul := Alq hx hp hnd
 by_cases hw : who ∈ Ai p.N.toNat nd
 ·obtain ⟨k, hk⟩ := List.getElem?_of_mem hw; obtain ⟨hi, hlt⟩ := N8 hx.un (Yr hp nd) hk; have hlt2 : k < x.ms.length := by rw [← Cw]; exact hlt
  refine (Av5 wb p x.time x.ub (unL x.ms) x.uc x.A x.links.length x.lc hp who s A cap hT (by omega) k hi _ _ _ _ _ I hr).mono ?_; rintro e w' ⟨m, G', rfl, hmu, hG, hok, I⟩; have hkm : x.ms[k]? = some x.ms[k] := List.getElem?_eq_getElem hlt2; have hst2 := St.newAt I (m0 := (x.ms[k]).lres) (f0 := (x.ms[k]).fres p) (i := k) (by rw [List.getElem?_map, hkm]; rfl) (by rw [List.getElem?_map, hkm]; rfl); have e1 : (unL x.ms).set k m.un = unL (x.ms.set k m) := by unfold unL; rw [List.map_set]
  have e2 : (unL (x.ms.set k m)).length = (unL x.ms).length := by rw [Cw, Cw, List.length_set]
  have e3 : E8 (x.ms.set k m) = E8 x.ms := by
   unfold E8; rw [List.map_set, hmu]; refine K7 ?_; have h3 := hx.who; unfold E8 at h3; rw [h3, hk]; rfl
  refine ⟨{ x with ms := x.ms.set k m }, G', O, ⟨?_, e3.trans hx.who, ?_⟩, hG, O, O, ?_⟩
  ·intro y hy; rcases List.mem_or_eq_of_mem_set hy with hy | rfl
   ·exact (hx.ms y hy).mono hG
   ·exact hok
  ·exact (J6 ((E9 _).trans (e3.trans hx.who)) (Yr hp nd) _).2 ((J6 hx.un (Yr hp nd) _).1 hx.links)
  ·unfold Wd.res; dsimp only; rw [e2, ← e1, List.map_set, List.map_set]; rw [e1] at hst2 ⊢; exact hst2
 ·refine (Amq wb p x.time x.ub (unL x.ms) x.uc x.A x.links.length x.lc who s A cap (by omega) (by rw [V2 hx.un hw]; decide) _ _ _ _ _ I).mono ?_; rintro e w' ⟨rfl, I⟩; exact ⟨x, G, O, hx, fun _ h => h, O, O, I⟩
theorem Bt4 (l : Int × Int) (fr : ByteArray) (wb : Nat) (p : Par) (hp : p.Ok) (nd : Nat) (hnd : nd ≤ 32) (x : Wd) (w0 w : World) (F0 : List Nat) (L G : List Res) (I : St w0 F0 w (x.res p wb L) G) (hx : x.Ok p nd G) :
  Calls Tryz.prog 26 #[.pointer (some ⟨wb, 0, none⟩), .agg (Aq l).toArray, .string fr] w fun e w' => ∃ (v : Value) (x' : Wd), e = .returned v ∧ x'.Ok p nd G ∧ x'.time = x.time ∧ x'.links = x.links ∧ St w0 F0 w' (x'.res p wb L) G := by
 have hul := Alq hx hp hnd
 by_cases hw : l.2 ∈ Ai p.N.toNat nd
 ·obtain ⟨k, hk⟩ := List.getElem?_of_mem hw; obtain ⟨hi, hlt⟩ := N8 hx.un (Yr hp nd) hk; have hlt2 : k < x.ms.length := by rw [← Cw]; exact hlt
  have hkm : x.ms[k]? = some x.ms[k] := List.getElem?_eq_getElem hlt2; have hkl : (x.ms.map UM.lres)[k]? = some (x.ms[k]).lres := by rw [List.getElem?_map, hkm]; rfl
  have hun : (unL x.ms)[k] = (x.ms[k]).un := by have h1 := Ag1 (ms := x.ms) rfl hkm; rw [List.getElem?_eq_getElem hlt] at h1; injection h1
  have hst2 := (St.foc (pre := [_, _, _]) (mid := x.ms.map UM.lres) I hkl).up_1; have hq : (x.ms[k]).lres = QR (unL x.ms)[k].lb 0 (x.ms[k]).u.qs := by rw [hun]; rfl
  rw [hq] at hst2; refine (Bm5 wb p x.time x.ub (unL x.ms) x.uc x.A x.links.length x.lc l fr _ (by omega) k hi hlt _ _ _ _ _ hst2 (Rds.rowL 0 O)).mono ?_; rintro e w' ⟨v, rfl, I⟩; have hst3 := St.unfoc (pre := [_, _, _]) (mid := x.ms.map UM.lres) I.dn1 hkl; have hm2 := hx.ms _ (List.getElem_mem hlt2); have e1 : QR (unL x.ms)[k].lb 0 (D4 (x.ms[k]).u.qs l.1 fr) = ((x.ms[k]).setQs (D4 (x.ms[k]).u.qs l.1 fr)).lres := by rw [hun]; rfl
  have e2 : unL (x.ms.set k ((x.ms[k]).setQs (D4 (x.ms[k]).u.qs l.1 fr))) = unL x.ms := by
   unfold unL; rw [List.map_set, Nm]; exact K7 (by rw [List.getElem?_map, hkm]; rfl)
  have e3 : E8 (x.ms.set k ((x.ms[k]).setQs (D4 (x.ms[k]).u.qs l.1 fr))) = E8 x.ms := by rw [← E9, e2, E9]
  have e4 : (x.ms.set k ((x.ms[k]).setQs (D4 (x.ms[k]).u.qs l.1 fr))).map (UM.fres p) = x.ms.map (UM.fres p) := by
   rw [List.map_set, Mj]; exact K7 (by rw [List.getElem?_map, hkm]; rfl)
  refine ⟨v, { x with ms := x.ms.set k ((x.ms[k]).setQs (D4 (x.ms[k]).u.qs l.1 fr)) }, O, ⟨?_, e3.trans hx.who, ?_⟩, O, O, ?_⟩
  ·intro y hy; rcases List.mem_or_eq_of_mem_set hy with hy | rfl
   ·exact hx.ms y hy
   ·exact Zd hm2 (Sb hm2.qs _ _)
  ·dsimp only; rw [e2]; exact hx.links
  ·unfold Wd.res; dsimp only; rw [e2, e4, List.map_set, ← e1]; exact hst3
 ·refine (Bdz wb p x.time x.ub (unL x.ms) x.uc x.A x.links.length x.lc l fr (by omega) (by rw [V2 hx.un hw]; decide) _ _ _ _ _ I (Rds.rowL 0 rfl)).mono ?_; rintro e w' ⟨v, rfl, I⟩; exact ⟨v, x, O, hx, O, O, I⟩
theorem Aa3 (tbl : List Int) (htl : tbl.length = 20) (stp : Stp) (wb : Nat) (p : Par) (hp : p.Ok) (nd : Nat) (hnd : nd ≤ 32) (x : Wd) (w0 w : World) (F0 : List Nat) (L G : List Res) (I : St w0 F0 w (x.res p wb L) G) (hx : x.Ok p nd G) (hll : x.links.length + 2 * stp.join.length ≤ 900000) (hok : stp.Ok G) (hpw : Gw tbl ∈ G) :
  Calls Tryz.prog 9 #[.pointer (some ⟨wb, 0, none⟩), .agg (Kc stp).toArray] w fun e w' => ∃ (x' : Wd) (G' : List Res), e = .returned (.int .i64 0) ∧ StepW p stp G G' x x' ∧ x'.Ok p nd G' ∧ (∀ r ∈ G, r ∈ G') ∧ St w0 F0 w' (x'.res p wb L) G' := by
 refine (Au2 tbl htl wb p x.time x.ub (unL x.ms) x.uc x.A x.lc hp x.links stp hll (Alq hx hp hnd) x.ms O hx.links (Alx hx hp hnd) _ _ _ _ _ I hx.ms hok hpw).mono ?_; rintro e w' ⟨ms1, sd, G', A', c', rfl, hr, I⟩; have e1 : unL (Cp (unL x.ms) stp (Ba (unL x.ms) x.ub (Bp x.links stp.cut) stp.join) sd ms1 (unL x.ms).length) = unL x.ms := (K6 UM.un Nm _ _ _ _ _ _).trans hr.un; have hs : StepW p stp G G' x { x with time := Bb [x.time, p.Beat], A := A', lc := c', links := Ba (unL x.ms) x.ub (Bp x.links stp.cut) stp.join, ms := Cp (unL x.ms) stp (Ba (unL x.ms) x.ub (Bp x.links stp.cut) stp.join) sd ms1 (unL x.ms).length } := ⟨⟨ms1, sd, hr, rfl⟩, rfl, rfl, e1, rfl⟩; refine ⟨_, G', rfl, hs, hs.ok hx (by have := hp.N; omega), hr.more, ?_⟩; unfold Wd.res; dsimp only; rw [e1]; exact I
def jkW (ws : List Int) (i : Nat) (l : List (Int × Int)) (n : Nat) : List (Int × Int) := (List.range n).foldl (fun l (k : Nat) => Eg ws l ((i : Int), (k : Int))) l
def jcW (ws : List Int) (i : Nat) (l : List (Int × Int)) (cs : List Int) : List (Int × Int) := cs.foldl (fun l c => if 0 ≤ c ∧ c < 32 then Eg ws l ((i : Int), 16 + c) else l) l
def jiW (ws : List Int) (n : Nat) (cs : List Int) (m : Nat) : List (Int × Int) := (List.range m).foldl (fun l (i : Nat) => jcW ws i (jkW ws i l n) cs) []
def lnk (ws : List Int) (n : Nat) (cs : List Int) (ls : List (Int × Int)) : List (Int × Int) := ls.foldl (C3 (Eg ws)) (jiW ws n cs n)
theorem Yh {us : List Un} {ws : List Int} (h : us.map (fun u => u.who) = ws) (hn : ws.Nodup) (ub n : Nat) (cs : List Int) (ls : List (Int × Int)) : Ky us ub n cs ls = lnk ws n cs ls := by
 unfold Ky lnk Ba jiF jiW ji1 jcF jcW jkF jkW jc1; rw [Acq h hn]
theorem Bi0 (p : Par) (hp : p.Ok) (nd : Nat) (hnd : nd ≤ 32) (core : List Int) (hcl : core.length ≤ 1000) (B : Option Addr) (cb : Nat) (links : List (Int × Int)) (hll : links.length ≤ 100000) (C : Option Addr) (cc : Nat) (w0 w : World) (F0 : List Nat) (L G : List Res) (I : St w0 F0 w L G) (hrn : Rds [] G (.slice none 0 0) 0 []) (hrc : Rds [] G (.slice B core.length cb) core.length (ivs core)) (hrl : Rds [] G (.slice C links.length cc) links.length (Ae Aq links)) :
  Calls Tryz.prog 20 #[.agg #[.int .i64 p.N, .int .i64 p.F, .int .i64 p.D, .int .i64 p.Beat, .int .i64 p.Rho, .int .i64 p.Delay, .int .i64 p.Jitter, .int .i64 p.Eps, .int .i64 p.Mu, .int .i64 p.Hold, .int .i64 p.Pulse, .int .i64 p.Second], .int .i64 (nd : Int), .slice B core.length cb, .slice C links.length cc] w fun e w' => ∃ (wb : Nat) (x : Wd) (G' : List Res), e = .returned (.tuple #[.pointer (some ⟨wb, 0, none⟩), .int .i64 0]) ∧ x.Ok p nd G' ∧ (∀ r ∈ G, r ∈ G') ∧ x.time = 0 ∧ x.links = lnk (Ai p.N.toNat nd) p.N.toNat core links ∧ puL x.ms = F6 p p.N.toNat ++ Gv p nd ∧ St w0 F0 w' (x.res p wb L) G' := by
 refine (A79 p hp nd hnd core hcl B cb links hll C cc _ _ _ _ _ I hrn hrc hrl).mono ?_; rintro e w' ⟨wb, ub, uc, LA, lc, ms, G', rfl, hpu, hok, hG, I⟩; have hw := Bf7 p _ _ hpu; exact ⟨wb, ⟨0, ub, uc, LA, lc, Ky (unL ms) ub p.N.toNat core links, ms⟩, G', O, ⟨hok, hw, Aq1 _ _ _ _ _⟩, hG, O, Yh ((E9 _).trans hw) (Yr hp nd) _ _ _ _, hpu, I⟩
end
section
open Tryz Go.RowKit YtaanjifekgfemaaGreat.K YtaanjifekgfemaaGreat.W YtaanjifekgfemaaGreat.LN
def Fy (c : Cs) (wb n l : Nat) : List Value := csC c ++ [.pointer (some ⟨wb, 0, none⟩), .int .i64 (n : Int), .int .i64 (l : Int)]
def Jd (c : Cs) (n : Nat) (lo hi : Int) : Int := if c.noise = [] ∨ hi ≤ lo then lo else lo + c.noise.getD (n % c.noise.length) 0 % 18446744073709551616 % (hi - lo + 1)
def Jc (c : Cs) (n : Nat) (lo hi : Int) : Nat := if c.noise = [] ∨ hi ≤ lo then n else n + 1
theorem Jq (c : Cs) (n : Nat) {lo hi : Int} (h : lo ≤ hi) : lo ≤ Jd c n lo hi ∧ Jd c n lo hi ≤ hi := by
 unfold Jd; split
 ·omega
 ·rename_i hc; have h1 := Int.emod_nonneg (c.noise.getD (n % c.noise.length) 0 % 18446744073709551616) (show hi - lo + 1 ≠ 0 by omega); have h2 := Int.emod_lt_of_pos (c.noise.getD (n % c.noise.length) 0 % 18446744073709551616) (show 0 < hi - lo + 1 by omega); omega
theorem P8 (c : Cs) (n : Nat) (lo hi : Int) : n ≤ Jc c n lo hi ∧ Jc c n lo hi ≤ n + 1 := by unfold Jc; split <;> omega
end
section
open Tryz Go.RowKit YtaanjifekgfemaaGreat.K YtaanjifekgfemaaGreat.W YtaanjifekgfemaaGreat.LN
attribute [local irreducible] Bg Ak Bb sub neg mag Da mul Dy
theorem Hw : FA 47 0 0 := fun _ _ => by simp [Instr.fieldAt, Instr.sureAddr, go_sem]
theorem Ab8 : FA 47 2 21 := fun _ _ => by simp [Instr.fieldAt, Instr.sureAddr, go_sem]
theorem Cv (rb : Nat) (c : Cs) (wb n l : Nat) (who : Int) (hok : c.p.Ok) (w0 w : World) (F0 : List Nat) (L G : List Res) (I : St w0 F0 w (Aa rb (Fy c wb n l) 47 :: L) G) :
  Calls Tryz.prog 15 #[.pointer (some ⟨rb, 0, none⟩), .int .i64 who] w fun e w' => ∃ b, e = .returned (.bool b) ∧ b = decide (16 ≤ who ∨ who < c.p.N - c.p.F) ∧ St w0 F0 w' (Aa rb (Fy c wb n l) 47 :: L) G := by
 have hN := hok.N; have hF := hok.F; refine W.func func15 O ntmps15 O<|Wh O<|I.g O O<|Od O<|Wq O<|W.drawn O (by kernel_rfl) (Ctx _ _ (_) (_)) [] (.op 0 0 (.op 1 0 (.op 2 0 (.op 3 0 (.op 4 0 (.op 5 0 (.op 6 0 (.op 7 0 (.op 8 0 (.op 9 0 (.op 10 0 (.op 11 0 (.op 12 0 (.op 13 0 (.op 14 0 (.op 15 0 (.op 16 0 (.op 17 0 (.op 18 0 (.op 19 0 .nil)))))))))))))))))))) O (by kernel_rfl) I.drew.ctx<|?_; replace I := I.drew; generalize World.drew _ = wd at I ⊢; refine I.zu O O<|Drw.yb O O O I.ctx (Y.geq O O) (fun b6 hb6 => I.zb O O<|?_); cases b6
 ·replace hb6 := dF hb6; refine I.zu O O<|I.zp O O<|I.zt O O<|I.zf Hw O O<|I.zf Jy O O<|I.zf F3 O O<|I.zl 0 O O O O<|I.zp O O<|I.zt O O<|I.zf Hw O O<|I.zf Jy O O<|I.zf N0 O O<|I.zl 0 O O O O<|I.z O (Y.subI O O (by omega))<|Drw.yb O O O I.ctx (Y.lss O O) (fun b22 hb22 => I.zk O O O<|I.zg O O<|Dd<|We O<|⟨_, Ac.one results15 O, ?_⟩); exact ⟨_, O, by rw [hb22]; exact decide_eq_decide.2 ⟨.inr, fun h => h.resolve_left hb6⟩, I⟩
 ·replace hb6 := dT hb6; refine I.o O<|I.o O<|I.o O<|I.o O<|I.o O<|I.o O<|I.o O<|I.o O<|I.o O<|I.o O<|I.o O<|I.o O<|I.o O<|I.o O<|I.o O<|I.zk O O O<|I.zg O O<|Dd<|We O<|⟨_, Ac.one results15 O, ?_⟩; exact ⟨true, O, (decide_eq_true (.inl hb6)).symm, I⟩
theorem Ol (rb : Nat) (c : Cs) (wb n l : Nat) (lo hi : Int) (hlh : -1152921504606846976 ≤ lo ∧ lo ≤ hi ∧ hi ≤ 1152921504606846976) (hn : n ≤ 1000000000) (hnl : c.noise.length ≤ 1000) (w0 w : World) (F0 : List Nat) (L G : List Res) (I : St w0 F0 w (Aa rb (Fy c wb n l) 47 :: L) G) (hin : c.In G) :
  Calls Tryz.prog 43 #[.pointer (some ⟨rb, 0, none⟩), .int .i64 lo, .int .i64 hi] w fun e w' => e = .returned (.int .i64 (Jd c n lo hi)) ∧ St w0 F0 w' (Aa rb (Fy c wb (Jc c n lo hi) l) 47 :: L) G := by
 refine W.func func43 O ntmps43 O<|Wh O<|I.a O O<|Od O<|Wq O<|Wh O<|I.p O O<|I.t O O<|I.f Hw O O<|I.f Vu O O<|I.y O (Y.load 0 isAgg24 O O O)<|I.y O (Y.lenS underlying24 O)<|I.Y O O O (fun b14 hb14 => I.b O O<|?_); cases b14
 ·replace hb14 := dF hb14; refine I.u O O<|I.u O O<|I.X O O O (fun b18 hb18 => I.k O O O<|Od O<|?_); cases b18
  ·replace hb18 := dF hb18; refine Wu O O<|Wk O<|Wq O<|?_; have hpos : 0 < c.noise.length := by omega
   have hrem : (n : Int) % (c.noise.length : Int) = ((n % c.noise.length : Nat) : Int) := by simp
   have hlt : n % c.noise.length < c.noise.length := Nat.mod_lt _ hpos; have hcc : ¬ (c.noise = [] ∨ hi ≤ lo) := fun h => h.elim (fun h => by rw [h] at hpos; exact absurd hpos (Nat.lt_irrefl _)) (by omega); refine I.dv [] (T0 [0,1,2,3,4,5,6,7,8,9,10,11,12,13,14,15,16,17,18] .nil) O (by kernel_rfl) O (by kernel_rfl) fun _ I => ?_; refine I.zp rfl rfl<|I.zt rfl rfl<|I.zf Hw rfl rfl<|I.zf Vu rfl rfl<|I.z rfl (Y.load 0 isAgg24 rfl rfl rfl)<|I.zp rfl rfl<|I.zt rfl rfl<|I.zf Ab8 rfl rfl<|I.zl 0 rfl rfl rfl rfl<|I.zp rfl rfl<|I.zt rfl rfl<|I.zf Hw rfl rfl<|I.zf Vu rfl rfl<|I.z rfl (Y.load 0 isAgg24 rfl rfl rfl)<|I.z rfl (Y.lenS underlying24 rfl)<|I.z rfl (Y.remI rfl rfl (by omega))<|I.z rfl (Y.indexAddr underlying24 sizeOf3 rfl rfl ((hin.noise.hd.sl I).ne (by simp [ivs]; omega)) (by omega))<|?_; refine I.z O (Y.loadSl isAgg3 O hin.noise.hd (Ef hlt))<|I.za O O<|Dd<|Wh O<|I.p O O<|I.t O O<|I.f Ab8 O O<|I.l 0 O O O O<|I.j O O O (by omega)<|I.t O O<|I.f Ab8 O O<|Ow O (X.storeV I 0 (.int _ _) sizeOf3 O O O O (lZ O) O O fun _ I => Od O<|Wq O<|?_); have h1 := Int.emod_nonneg (c.noise.getD (n % c.noise.length) 0 % 18446744073709551616) (show hi - lo + 1 ≠ 0 by omega); have h2 := Int.emod_lt_of_pos (c.noise.getD (n % c.noise.length) 0 % 18446744073709551616) (show 0 < hi - lo + 1 by omega)
   have hz : IntKind.i64.wrap (c.noise.getD (n % c.noise.length) 0 % 18446744073709551616 % (hi - lo + 1)) = c.noise.getD (n % c.noise.length) 0 % 18446744073709551616 % (hi - lo + 1) := by
    generalize c.noise.getD (n % c.noise.length) 0 % 18446744073709551616 % (hi - lo + 1) = z at h1 h2; simp [IntKind.wrap, IntKind.bits, IntKind.signed]; omega
   refine Wr O<|I.u O O<|I.u O O<|I.y O (Y.cast (Y.conv underlying146 underlying3 O) (congrArg (Value.int .u64) (wrap_u64 _)))<|I.u O O<|I.u O O<|I.y O (Y.subI O O (by omega))<|I.j O O O (by omega)<|I.y O (Y.cast (Y.conv underlying146 underlying3 O) (congrArg (Value.int .u64) ((wrap_u64 _).trans (show (hi - lo + 1) % 18446744073709551616 = hi - lo + 1 by omega))))<|?_; refine I.y O (Y.remI O O ⟨Int.emod_nonneg _ (by decide), by omega⟩) ?_; refine I.y O (Y.cast (Y.conv underlying3 underlying146 O) (congrArg (Value.int .i64) hz))<|I.j O O O (by omega)<|I.a O O<|Od O<|We O<|⟨_, Ac.one results43 O, ?_⟩; have e1 : Jd c n lo hi = lo + c.noise.getD (n % c.noise.length) 0 % 18446744073709551616 % (hi - lo + 1) := if_neg hcc; have e2 : Jc c n lo hi = n + 1 := if_neg hcc; rw [e1, e2]; exact ⟨O, I⟩
  ·replace hb18 := dT hb18; refine Wt O O<|Wh O<|I.u O O<|I.a O O<|Od O<|We O<|⟨_, Ac.one results43 O, ?_⟩; have hcc : c.noise = [] ∨ hi ≤ lo := .inr hb18; have e1 : Jd c n lo hi = lo := if_pos hcc; have e2 : Jc c n lo hi = n := if_pos hcc; rw [e1, e2]; exact ⟨O, I⟩
 ·replace hb14 := dT hb14; refine On O<|On O<|On O<|I.k O O O<|Od O<|Wt O O<|Wh O<|I.u O O<|I.a O O<|Od O<|We O<|⟨_, Ac.one results43 O, ?_⟩; have hcc : c.noise = [] ∨ hi ≤ lo := .inl (List.eq_nil_of_length_eq_zero (by omega)); have e1 : Jd c n lo hi = lo := if_pos hcc; have e2 : Jc c n lo hi = n := if_pos hcc; rw [e1, e2]; exact ⟨O, I⟩
theorem Zv (k : Nat) : Ai (k + 1) 0 = Ai k 0 ++ [(k : Int)] := by unfold Ai; rw [List.range_succ, List.map_append]; simp
theorem Ag5 (N k : Nat) : Ai N (k + 1) = Ai N k ++ [16 + (k : Int)] := by unfold Ai; rw [List.range_succ, List.map_append, List.append_assoc]; simp
theorem X9 (l : List Int) (x : Int) : ivs (l ++ [x]) = ivs l ++ [.int .i64 x] := by unfold ivs; rw [List.map_append]; rfl
theorem U2 (rb : Nat) (c : Cs) (wb n l : Nat) (hok : c.p.Ok) (nd : Nat) (hnd : c.nodes = (nd : Int)) (hn2 : nd ≤ 32) (w0 w : World) (F0 : List Nat) (L G : List Res) (I : St w0 F0 w (Aa rb (Fy c wb n l) 47 :: L) G) :
  Calls Tryz.prog 10 #[.pointer (some ⟨rb, 0, none⟩)] w fun e w' => ∃ A' c', e = .returned (.slice A' (c.p.N.toNat + nd) c') ∧ St w0 F0 w' (Af (.slice A' (c.p.N.toNat + nd) c') 3 1 (c.p.N.toNat + nd) (ivs (Ai c.p.N.toNat nd)) :: Aa rb (Fy c wb n l) 47 :: L) G := by
 have hN := hok.N; refine W.func func10 O ntmps10 O<|Wh O<|I.y O (Y.assignS O)<|Ds O O<|I.y O (Y.assignS O)<|Od O<|Wq O<|Wh O<|?_; replace I := I.nilRow 3 1; refine I.a O O<|Od O<|Wb O<|?_; refine W.loop (γ := Nat × Option Addr × Nat) [(0, .pointer _)] (fun x => [(4, .int .i64 (x.1 : Int)), (3, .slice x.2.1 x.1 x.2.2)]) (fun x w => x.1 ≤ c.p.N.toNat ∧ St w0 F0 w (Af (.slice x.2.1 (x.1) x.2.2) 3 1 (x.1) (ivs (Ai x.1 0)) :: Aa rb (Fy c wb n l) 47 :: L) G) (fun x => c.p.N.toNat - x.1) ((0, none, 0)) O ⟨O, trivial⟩ ?_ ?_ ?_
 ·exact ⟨O, O, trivial⟩
 ·exact ⟨Nat.zero_le _, I⟩
 ·clear I; rintro ⟨k, A5, c5⟩ j w3 ⟨hk, I⟩; dsimp only at hk; refine Wq O<|Wh O<|I.u O O<|I.p O O<|I.t O O<|I.f Hw O O<|I.f Jy O O<|I.f F3 O O<|I.l 1 O O O O<|I.v O O O (fun b13 hb13 => Od O<|?_); cases b13
  ·replace hb13 := dF hb13; refine Wu O O<|W.exit O<|Wq O<|Wq O<|?_; obtain rfl : k = c.p.N.toNat := by omega
   refine Wr O<|I.a O O<|Od O<|Wb O<|?_; refine W.loop (γ := Nat × Option Addr × Nat) [(0, .pointer _)] (fun x => [(5, .int .i64 (x.1 : Int)), (3, .slice x.2.1 (c.p.N.toNat + x.1) x.2.2)]) (fun x w => x.1 ≤ nd ∧ St w0 F0 w (Af (.slice x.2.1 (c.p.N.toNat + x.1) x.2.2) 3 1 (c.p.N.toNat + x.1) (ivs (Ai c.p.N.toNat x.1)) :: Aa rb (Fy c wb n l) 47 :: L) G) (fun x => nd - x.1) ((0, A5, c5)) O ⟨O, trivial⟩ ?_ ?_ ?_
   ·exact ⟨O, O, trivial⟩
   ·exact ⟨Nat.zero_le _, I⟩
   ·clear I; rintro ⟨k, A5, c5⟩ j w3 ⟨hk, I⟩; dsimp only at hk; refine Wq O<|Wh O<|I.u O O<|I.p O O<|I.t O O<|I.f Hw O O<|I.f Vr O O<|I.l 1 O O O O<|I.v O O O (fun b26 hb26 => Od O<|?_); cases b26
    ·replace hb26 := dF hb26; refine Wu O O<|W.exit O<|Wq O<|?_; obtain rfl : k = nd := by omega
     refine Wr O<|I.s O O<|I.y O (Y.assignS O)<|Od O<|We O<|⟨_, Ac.one results10 O, ?_⟩; exact ⟨A5, c5, O, I⟩
    ·replace hb26 := dT hb26; refine Wt O O<|Wk O<|Wq O<|Wb O<|?_; have hwl := Eu c.p.N.toNat k; refine Wr O<|I.s O O<|I.u O O<|I.j O O O (by omega)<|Ow O (Xl I (by rfl) (by rfl) (by rfl) [.int _ _] (by rfl) (by rfl) fun p32 w32 I => ?_); refine Ow rfl (X.app I 1 0 underlying24 Jl rfl rfl rfl rfl rfl rfl rfl rfl (by (try dsimp only); unfold maxLen; omega) (by (try dsimp only); omega) fun A33 c33 w33 I => ?_); refine I.y O (Y.assignS O)<|Od O<|Wr O<|I.u O O<|I.j O O O (by omega)<|I.a O O<|Od O<|?_; have hst2 := (I.dr 1); have e1 : (Ai c.p.N.toNat k ++ [16 + (k : Int)]) = Ai c.p.N.toNat (k + 1) := (Ag5 _ k).symm; rw [show ivs (Ai c.p.N.toNat k) ++ [Value.int .i64 (16 + (k : Int))] = ivs (Ai c.p.N.toNat (k + 1)) by rw [← e1, X9]] at hst2; exact ⟨(k + 1, A33, c33), ⟨O, O, trivial⟩, ⟨O, trivial⟩, ⟨by dsimp only; omega, hst2⟩, by dsimp only; omega⟩
  ·replace hb13 := dT hb13; refine Wt O O<|Wk O<|Wq O<|Wb O<|?_; have hwl := Eu k 0; refine Wr O<|I.s O O<|I.u O O<|Ow O (Xl I (by rfl) (by rfl) (by rfl) [.int _ _] (by rfl) (by rfl) fun p18 w18 I => ?_); refine Ow rfl (X.app I 1 0 underlying24 Jl rfl rfl rfl rfl rfl rfl rfl rfl (by (try dsimp only); unfold maxLen; omega) (by (try dsimp only); omega) fun A19 c19 w19 I => ?_); refine I.y O (Y.assignS O)<|Od O<|Wr O<|I.u O O<|I.j O O O (by omega)<|I.a O O<|Od O<|?_; have hst2 := (I.dr 1); have e1 : (Ai k 0 ++ [(k : Int)]) = Ai (k + 1) 0 := (Zv k).symm; rw [show ivs (Ai k 0) ++ [Value.int .i64 (k : Int)] = ivs (Ai (k + 1) 0) by rw [← e1, X9]] at hst2; exact ⟨(k + 1, A19, c19), ⟨O, O, trivial⟩, ⟨O, trivial⟩, ⟨by dsimp only; omega, hst2⟩, by dsimp only; omega⟩
end
end Go.Proofs.YtaanjifekgfemaaGreat.Cl
namespace Go.Proofs.YtaanjifekgfemaaGreat.K
section
open Tryz Go.RowKit YtaanjifekgfemaaGreat.Cl YtaanjifekgfemaaGreat.W YtaanjifekgfemaaGreat.LN
section
variable {w0 w : World} {F0 : List Nat} {L G : List Res}
theorem Bv (pre : List Res) (x : Wd) (p : Par) (wb : Nat) (L : List Res) : (pre ++ x.res p wb L).Perm (x.res p wb (pre ++ L)) := Gh fun P => by
 unfold Wd.res; simp only [List.countP_append, List.countP_cons]; omega
theorem St.resDn {x : Wd} {p : Par} {wb : Nat} (pre : List Res) (h : St w0 F0 w (pre ++ x.res p wb L) G) : St w0 F0 w (x.res p wb (pre ++ L)) G := h.perm (Bv pre x p wb L)
theorem St.resUp {x : Wd} {p : Par} {wb : Nat} (pre : List Res) (h : St w0 F0 w (x.res p wb (pre ++ L)) G) : St w0 F0 w (pre ++ x.res p wb L) G := h.perm (Bv pre x p wb L).symm
end
end
end Go.Proofs.YtaanjifekgfemaaGreat.K
namespace Go.Proofs.YtaanjifekgfemaaGreat.Cl
section
open Tryz Go.RowKit YtaanjifekgfemaaGreat.K YtaanjifekgfemaaGreat.W YtaanjifekgfemaaGreat.LN
attribute [local irreducible] Bg Ak Bb sub neg mag Da mul Dy
theorem Av2 {S ρ ty} {parts : Array (Nat × Operand)} {a b f g h j k m n o d e q r : Int} {t : Option Addr} {v u : Nat} {y : Option Addr} {a1 z : Nat} {b1 : Option Addr} {e1 d1 : Nat} {f1 : Option Addr} {h1 g1 : Nat} {j1 : Option Addr} {m1 k1 : Nat} {n1 : Option Addr} {q1 o1 : Nat} {x1 : Option Addr} (hp : (parts.toList.map fun x => (x.1, ev ρ x.2)) = [(0, .agg #[.int .i64 a, .int .i64 b, .int .i64 f, .int .i64 g, .int .i64 h, .int .i64 j, .int .i64 k, .int .i64 m, .int .i64 n, .int .i64 o, .int .i64 d, .int .i64 e, .int .i64 q, .int .i64 r, Value.slice t v u, Value.slice y a1 z, Value.slice b1 e1 d1, Value.slice f1 h1 g1, Value.slice j1 m1 k1, Value.slice n1 q1 o1]), (1, Value.pointer x1)]) : Y Tryz.prog S ρ (.build 47 parts) ty (.agg #[.int .i64 a, .int .i64 b, .int .i64 f, .int .i64 g, .int .i64 h, .int .i64 j, .int .i64 k, .int .i64 m, .int .i64 n, .int .i64 o, .int .i64 d, .int .i64 e, .int .i64 q, .int .i64 r, Value.slice t v u, Value.slice y a1 z, Value.slice b1 e1 d1, Value.slice f1 h1 g1, Value.slice j1 m1 k1, Value.slice n1 q1 o1, Value.pointer x1, .int .i64 0, .int .i64 0]) :=
 Y.build hp fun w => by simp [Instr.build, go_sem]
theorem Bqq : CF 20 := fun _ _ => by simp [go_sem]
theorem Bu2 : CF 24 := fun _ _ => by simp [go_sem]
theorem Br5 : CF 25 := fun _ _ => by simp [go_sem]
theorem Bu3 : CF 26 := fun _ _ => by simp [go_sem]
set_option maxHeartbeats 4000000 in
theorem Amx (c : Cs) (beats : Int) (hs : c.Small beats) (nd : Nat) (hnd : c.nodes = (nd : Int)) (w0 w : World) (F0 : List Nat) (L G : List Res) (I : St w0 F0 w L G) (hin : c.In G) (hrn : Rds [] G (.slice none 0 0) 0 []) :
  Calls Tryz.prog 8 #[.agg (csC c).toArray] w fun e w' => ∃ (rb wb : Nat) (x : Wd) (G' : List Res), e = .returned (.pointer (some ⟨rb, 0, none⟩)) ∧ x.Ok c.p nd G' ∧ (∀ r ∈ G, r ∈ G') ∧ x.time = Ak c.time ∧ x.links = lnk (Ai c.p.N.toNat nd) c.p.N.toNat c.core c.links ∧ St w0 F0 w' (Aa rb (Fy c wb 0 0) 47 :: x.res c.p wb L) G' := by
 have hok := hs.ok; have hN := hok.N; have hn6 := hs.nodes; have hl1 := hs.core; have hl2 := hs.links; have hl3 := hs.states; have hl4 := hs.frames; have hnd2 : nd ≤ 32 := by omega
 refine W.func func8 O ntmps8 O<|Wh O<|Ow O (X.boxA I O fun p1 w1 I => I.y O (Y.assignP O)<|Ds O O<|I.f Jy O O<|I.y O (Y.loadA 0 isAgg23 sizeOf23 O O O O)<|I.f Vr O O<|I.l 0 O O O O<|I.f Ax3 O O<|I.y O (Y.load 0 isAgg24 O O O)<|I.f Ax4 O O<|I.y O (Y.load 0 isAgg25 O O O)<|Oc O Bqq O ?_); rw [hnd]; refine Ab (Bi0 c.p hok nd hnd2 c.core (by omega) _ _ c.links (by omega) _ _ _ _ _ _ _ I hrn hin.core hin.links) O ?_; clear I; rintro e w20 ⟨wb, x0, G1, rfl, hx0, hG1, ht0, hl0, hpu, I⟩; replace I := I.resUp [_]; refine ⟨_, O, ?_⟩; refine I.y O (Y.moveU O)<|I.e O O O<|I.e O O O<|I.y O (Y.assignP O)<|I.a O O<|Od O<|Wq O<|Wh O<|I.u O O<|I.yb O (Y.neq O O) (fun b24 hb24 => Od O<|?_); cases b24
 ·replace hb24 := dF hb24; refine Wu O O<|Wk O<|Wh O<|I.y O (Y.loadA 0 isAgg30 sizeOf30 O O O O)<|I.p O O<|I.y O (Av2 O)<|Ow O (X.boxA I O fun p28 w28 I => I.y O (Y.assignP O)<|Ds O O<|I.p O O<|I.f Ab3 O O<|I.l 1 O O O O<|Oc O Bu2 O ?_); refine Ab (Bn0 c.time wb c.p hok nd hnd2 x0 _ _ _ _ _ (I.resDn [_, _]) hx0) O ?_; clear I; rintro e w32 ⟨rfl, I⟩; replace I := I.resUp [_, _]; refine ⟨_, O, ?_⟩; refine Od O<|Wq O<|Wh O<|I.f Vs O O<|I.y O (Y.load 1 isAgg26 O O O)<|I.y O (Y.lenS underlying26 O)<|I.u O O<|Od O<|Wb O<|?_; refine W.loop (γ := Nat × Wd × List Res) [(1, .pointer _), (3, .pointer _), (5, .pointer _), (34, .slice _ _ _), (35, .int _ _)] (fun x => [(36, .int .i64 (x.1 : Int))]) (fun x w => (x.1 ≤ c.states.length ∧ x.2.1.Ok c.p nd x.2.2 ∧ (∀ r ∈ G, r ∈ x.2.2) ∧ x.2.1.time = Ak c.time ∧ x.2.1.links = lnk (Ai c.p.N.toNat nd) c.p.N.toNat c.core c.links) ∧ St w0 F0 w (Aa p28 (Fy c wb 0 0) 47 :: Aa p1 (csC c) 30 :: x.2.1.res c.p wb L) x.2.2) (fun x => c.states.length - x.1) ((0, { x0 with time := Ak c.time }, G1)) O ⟨O, O, O, O, O, trivial⟩ ?_ ?_ ?_
  ·exact ⟨O, trivial⟩
  ·exact ⟨⟨Nat.zero_le _, ⟨hx0.ms, hx0.who, hx0.links⟩, hG1, O, hl0⟩, I⟩
  ·clear I; rintro ⟨k, x, G1⟩ j w7 ⟨⟨hk, hx, hG1, htm, hlk⟩, I⟩; dsimp only at hk hx hG1 htm hlk; refine Wh O<|I.v O O O (fun b37 hb37 => Od O<|Wq O<|?_); cases b37
   ·replace hb37 := dF hb37; refine Wu O O<|W.exit O<|Wq O<|Wq O<|?_; obtain rfl : k = c.states.length := by omega
    refine Wr O<|I.f Vt O O<|I.y O (Y.load 1 isAgg27 O O O)<|I.y O (Y.lenS underlying27 O)<|I.u O O<|Od O<|Wb O<|?_; refine W.loop (γ := Nat × Wd × List Res) [(3, .pointer _), (5, .pointer _), (59, .slice _ _ _), (60, .int _ _)] (fun x => [(61, .int .i64 (x.1 : Int))]) (fun x w => (x.1 ≤ c.frames.length ∧ x.2.1.Ok c.p nd x.2.2 ∧ (∀ r ∈ G, r ∈ x.2.2) ∧ x.2.1.time = Ak c.time ∧ x.2.1.links = lnk (Ai c.p.N.toNat nd) c.p.N.toNat c.core c.links) ∧ St w0 F0 w (Aa p28 (Fy c wb 0 0) 47 :: Aa p1 (csC c) 30 :: x.2.1.res c.p wb L) x.2.2) (fun x => c.frames.length - x.1) ((0, x, G1)) O ⟨O, O, O, O, trivial⟩ ?_ ?_ ?_
    ·exact ⟨O, trivial⟩
    ·exact ⟨⟨Nat.zero_le _, hx, hG1, htm, hlk⟩, I⟩
    ·clear I; rintro ⟨k, x, G1⟩ j w14 ⟨⟨hk, hx, hG1, htm, hlk⟩, I⟩; dsimp only at hk hx hG1 htm hlk; refine Wh O<|I.v O O O (fun b62 hb62 => Od O<|Wq O<|?_); cases b62
     ·replace hb62 := dF hb62; refine Wu O O<|W.exit O<|Wh O<|I.p O O<|I.y O (Y.assignP O)<|Od O<|We O<|⟨_, Ac.one results8 O, ?_⟩; exact ⟨p28, wb, x, G1, O, hx, hG1, htm, hlk, (I.sub (.cons_cons _ (.cons _ (.refl _))))⟩
     ·replace hb62 := dT hb62; refine Wt O O<|Wk O<|Wq O<|Wb O<|Wq O<|?_; have hk1 : k < c.frames.length := by omega
      refine Wr O<|I.y O (Y.indexAddr underlying27 sizeOf79 O O (((hin.frames.moreG hG1).hd.sl I).ne (Bi Lh (by decide) (by omega))) (by omega))<|?_; refine I.y O (Y.loadSlA isAgg79 sizeOf79 O (hin.frames.moreG hG1).hd (Bo Lh c.frames k hk1) O)<|Ow O (X.allocA I zeroValue79 fun p10 w10 I => Ow O (X.storeS I 0 sizeOf79 O O O O O (lZ O) O O fun _ I => Od O<|Wr O<|I.p O O<|I.f Ax7 O O<|I.y O (Y.loadA 0 isAgg77 sizeOf77 O O O O)<|I.f Abx O O<|I.y O (Y.load 0 isAgg9 O O O)<|Oc O Bu3 O ?_)); refine Ab (Bt4 (c.frames[k].from_, c.frames[k].to) c.frames[k].text wb c.p hok nd hnd2 x _ _ _ _ _ (I.resDn [_, _, _]) hx) O ?_; clear I; rintro e w70 ⟨v70, x2, rfl, hx2, ht2, hl2', I⟩; replace I := I.resUp [_, _, _]; refine ⟨_, O, ?_⟩; refine Od O<|Wr O<|I.j O O O (by omega)<|I.u O O<|Od O<|?_; exact ⟨(k + 1, x2, G1), ⟨O, trivial⟩, ⟨O, O, O, O, trivial⟩, ⟨⟨by dsimp only; omega, hx2, hG1, ht2.trans htm, hl2'.trans hlk⟩, (I.dr 1)⟩, by dsimp only; omega⟩
   ·replace hb37 := dT hb37; refine Wt O O<|Wk O<|Wq O<|Wb O<|Wq O<|?_; have hk1 : k < c.states.length := by omega
    have hT : Bn c.states[k].s.tab := ⟨by have := hs.tabs _ (List.getElem_mem hk1); omega, (hin.tabs _ (List.getElem_mem hk1)).1⟩; refine Wr O<|I.u O O<|I.y O (Y.indexAddr underlying26 sizeOf57 O O (((hin.states.moreG hG1).hd.sl I).ne (Bi Qc (by decide) (by omega))) (by omega))<|?_; refine I.y O (Y.loadSlA isAgg57 sizeOf57 O (hin.states.moreG hG1).hd (Bo Qc c.states k hk1) O)<|Ow O (X.allocA I zeroValue57 fun p7 w7 I => I.a O O<|Ow O (X.storeS I 0 sizeOf57 O O O O O (lZ O) O O fun _ I => Ds O O<|I.u O O<|I.a O O<|Od O<|Wq O<|Wh O<|I.u O O<|I.f Jy O O<|I.f F3 O O<|I.l 2 O O O O<|I.W O O O (fun b46 hb46 => Od O<|?_))); cases b46
    ·replace hb46 := dF hb46; refine Wu O O<|Wk O<|Wr O<|I.p O O<|I.u O O<|I.y O (Y.loadA 0 isAgg57 sizeOf57 O O O O)<|Oc O Br5 O ?_; refine Ab (Ah1 _ c.states[k].s c.states[k].A c.states[k].cap hT wb c.p hok nd hnd2 x _ _ _ _ _ (I.resDn [_, _, _]) hx ((hin.tabs _ (List.getElem_mem hk1)).2.moreG hG1)) O ?_; clear I; rintro e w56 ⟨x2, G2, rfl, hx2, hG2, ht2, hl2', I⟩; replace I := I.resUp [_, _, _]; refine ⟨_, O, ?_⟩; refine Od O<|Wr O<|I.j O O O (by omega)<|I.u O O<|Od O<|?_; exact ⟨(k + 1, x2, G2), ⟨O, trivial⟩, ⟨O, O, O, O, O, trivial⟩, ⟨⟨by dsimp only; omega, hx2, fun r hr => hG2 r (hG1 r hr), ht2.trans htm, hl2'.trans hlk⟩, (I.dr 1)⟩, by dsimp only; omega⟩
    ·replace hb46 := dT hb46; refine Wt O O<|Wr O<|I.u O O<|I.j O O O (by omega)<|I.f Jy O O<|I.f F3 O O<|I.l 2 O O O O<|I.y O (Y.subI O O (by omega))<|I.a O O<|Od O<|Wr O<|I.p O O<|I.u O O<|I.y O (Y.loadA 0 isAgg57 sizeOf57 O O O O)<|Oc O Br5 O ?_; refine Ab (Ah1 _ c.states[k].s c.states[k].A c.states[k].cap hT wb c.p hok nd hnd2 x _ _ _ _ _ (I.resDn [_, _, _]) hx ((hin.tabs _ (List.getElem_mem hk1)).2.moreG hG1)) O ?_; clear I; rintro e w56 ⟨x2, G2, rfl, hx2, hG2, ht2, hl2', I⟩; replace I := I.resUp [_, _, _]; refine ⟨_, O, ?_⟩; refine Od O<|Wr O<|I.j O O O (by omega)<|I.u O O<|Od O<|?_; exact ⟨(k + 1, x2, G2), ⟨O, trivial⟩, ⟨O, O, O, O, O, trivial⟩, ⟨⟨by dsimp only; omega, hx2, fun r hr => hG2 r (hG1 r hr), ht2.trans htm, hl2'.trans hlk⟩, (I.dr 1)⟩, by dsimp only; omega⟩
 ·replace hb24 := dT hb24; exact absurd O hb24
end
section
open Tryz Go.RowKit YtaanjifekgfemaaGreat.K YtaanjifekgfemaaGreat.W YtaanjifekgfemaaGreat.LN
def L6 (c : Cs) (n : Nat) : Int := c.p.Beat + Jd c n (-c.p.Rho) c.p.Rho
def Du (c : Cs) (n : Nat) : Nat := Jc c n (-c.p.Rho) c.p.Rho
def Aux (c : Cs) (n : Nat) : Int := c.p.Beat - c.p.Delay + Jd c n (-c.p.Rho) (c.p.Jitter + c.p.Rho)
def Auq (c : Cs) (n : Nat) : Nat := Jc c n (-c.p.Rho) (c.p.Jitter + c.p.Rho)
def Ul (c : Cs) (time : Int) (n : Nat) : Int := time + c.p.Beat + Jd c n (-c.p.Eps) c.p.Eps
def Wp (c : Cs) (n : Nat) : Nat := Jc c n (-c.p.Eps) c.p.Eps
def A85 (c : Cs) (who : Int) (s : Nat × List Ag) (f : Int) : Nat × List Ag := (Auq c s.1, s.2 ++ [⟨f, who, Aux c s.1⟩])
def AGf (c : Cs) (us : List Int) (who : Int) (s : Nat × List Ag) (j : Nat) : Nat × List Ag := (us.take j).foldl (A85 c who) s
def Zl (c : Cs) (us : List Int) (s : Nat × List (Int × Int) × List Ag) (who : Int) : Nat × List (Int × Int) × List Ag :=
  ((AGf c us who (Du c s.1, s.2.2) us.length).1, s.2.1 ++ [(who, L6 c s.1)], (AGf c us who (Du c s.1, s.2.2) us.length).2)
def TKf (c : Cs) (us : List Int) (n k : Nat) : Nat × List (Int × Int) × List Ag := (us.take k).foldl (Zl c us) (n, [], [])
def Y7 (c : Cs) (time : Int) (i : Nat) (s : Nat × List Rd) : Nat × List Rd := (Wp c s.1, s.2 ++ [⟨(i : Int), true, Ul c time s.1, false, [], none, 0⟩])
def Yg (c : Cs) (l : Nat) : ByteArray := c.lies.getD (l % c.lies.length) ByteArray.empty
def Apz (c : Cs) (i : Nat) (s : Nat × List Li) (to : Int) : Nat × List Li := if c.lies = [] then s else (s.1 + 1, s.2 ++ [⟨(i : Int), to, Yg c s.1⟩])
def LIf (c : Cs) (us : List Int) (i : Nat) (s : Nat × List Li) (j : Nat) : Nat × List Li := (us.take j).foldl (Apz c i) s
def rlS (c : Cs) (us : List Int) (time : Int) (s : (Nat × List Rd) × (Nat × List Li)) (i : Nat) : (Nat × List Rd) × (Nat × List Li) :=
  if (i : Int) < c.p.N - c.p.F then (Y7 c time i s.1, s.2) else (s.1, LIf c us i s.2 us.length)
def RLf (c : Cs) (us : List Int) (time : Int) (n l k : Nat) : (Nat × List Rd) × (Nat × List Li) := (List.range k).foldl (rlS c us time) ((n, []), (l, []))
theorem W4 (c : Cs) (us : List Int) (who : Int) (s : Nat × List Ag) (j : Nat) (h : j < us.length) : AGf c us who s (j + 1) = A85 c who (AGf c us who s j) us[j] := Hl _ _ _ _ h
theorem W8 (c : Cs) (us : List Int) (n k : Nat) (h : k < us.length) : TKf c us n (k + 1) = Zl c us (TKf c us n k) us[k] := Hl _ _ _ _ h
theorem Qk (c : Cs) (us : List Int) (i : Nat) (s : Nat × List Li) (j : Nat) (h : j < us.length) : LIf c us i s (j + 1) = Apz c i (LIf c us i s j) us[j] := Hl _ _ _ _ h
theorem Kl (c : Cs) (us : List Int) (time : Int) (n l k : Nat) : RLf c us time n l (k + 1) = rlS c us time (RLf c us time n l k) k := by unfold RLf; rw [List.range_succ, List.foldl_append]; rfl
theorem Bf9 (c : Cs) (us : List Int) (who : Int) (s : Nat × List Ag) (j : Nat) (h : j ≤ us.length) : (AGf c us who s j).2.length = s.2.length + j ∧ (AGf c us who s j).1 ≤ s.1 + j := by
  induction j with
  | zero => exact ⟨rfl, Nat.le_refl _⟩
  | succ j ih =>
    obtain ⟨h1, h2⟩ := ih (by omega); rw [W4 c us who s j (by omega)]; unfold A85; have := (P8 c (AGf c us who s j).1 (-c.p.Rho) (c.p.Jitter + c.p.Rho)).2; simp only [List.length_append, List.length_cons, List.length_nil]; unfold Auq; omega
theorem Ag8 (c : Cs) (us : List Int) (n k : Nat) (h : k ≤ us.length) : (TKf c us n k).2.1.length = k ∧ (TKf c us n k).2.2.length = k * us.length ∧ (TKf c us n k).1 ≤ n + k * (us.length + 1) := by
  induction k with
  | zero => exact ⟨rfl, (Nat.zero_mul _).symm, by simp [TKf]⟩
  | succ k ih =>
    obtain ⟨h1, h2, h3⟩ := ih (by omega); rw [W8 c us n k (by omega)]; unfold Zl; obtain ⟨h4, h5⟩ := Bf9 c us us[k] (Du c (TKf c us n k).1, (TKf c us n k).2.2) us.length (Nat.le_refl _); dsimp only at h4 h5 ⊢; have h6 : Du c (TKf c us n k).1 ≤ (TKf c us n k).1 + 1 := (P8 c _ _ _).2; rw [Nat.add_mul, Nat.add_mul]; simp only [List.length_append, List.length_cons, List.length_nil]; omega
theorem Bfx (c : Cs) (us : List Int) (i : Nat) (s : Nat × List Li) (j : Nat) (h : j ≤ us.length) : (LIf c us i s j).2.length ≤ s.2.length + j ∧ (LIf c us i s j).1 ≤ s.1 + j := by
  induction j with
  | zero => exact ⟨Nat.le_refl _, Nat.le_refl _⟩
  | succ j ih =>
    obtain ⟨h1, h2⟩ := ih (by omega); rw [Qk c us i s j (by omega)]; unfold Apz; split
    · omega
    · simp only [List.length_append, List.length_cons, List.length_nil]; omega
theorem Au9 (c : Cs) (us : List Int) (time : Int) (n l k : Nat) : (RLf c us time n l k).1.2.length ≤ k ∧ (RLf c us time n l k).2.2.length ≤ k * us.length ∧ (RLf c us time n l k).1.1 ≤ n + k ∧ (RLf c us time n l k).2.1 ≤ l + k * us.length := by
  induction k with
  | zero => exact ⟨Nat.le_refl _, Nat.zero_le _, by simp [RLf], by simp [RLf]⟩
  | succ k ih =>
    obtain ⟨h1, h2, h3, h4⟩ := ih; rw [Kl]; unfold rlS; split
    · unfold Y7; have : Wp c (RLf c us time n l k).1.1 ≤ (RLf c us time n l k).1.1 + 1 := (P8 c _ _ _).2; rw [Nat.add_mul]; simp only [List.length_append, List.length_cons, List.length_nil]; omega
    · obtain ⟨h5, h6⟩ := Bfx c us k (RLf c us time n l k).2 us.length (Nat.le_refl _); rw [Nat.add_mul]; dsimp only; omega
theorem A82 (c : Cs) (us : List Int) (time : Int) (n l k : Nat) : ∀ r ∈ (RLf c us time n l k).1.2, r.tab = [] ∧ r.A = none ∧ r.cap = 0 := by
  induction k with
  | zero => intro r hr; cases hr
  | succ k ih =>
    rw [Kl]; unfold rlS; split
    · intro r hr; unfold Y7 at hr; dsimp only at hr; rcases List.mem_append.1 hr with hr | hr
      · exact ih r hr
      · rw [List.mem_singleton] at hr; subst hr; exact ⟨rfl, rfl, rfl⟩
    · exact ih
def Ms (nt nr na nl : Nat) (A0 : Option Addr) (c0 : Nat) (A1 : Option Addr) (c1 : Nat) (A2 : Option Addr) (c2 : Nat) (A4 : Option Addr) (c4 : Nat) : List Value := [.slice A0 nt c0, .slice A1 nr c1, .slice A2 na c2, .slice none 0 0, .slice A4 nl c4, .slice none 0 0, .slice none 0 0, .slice none 0 0]
theorem Hj {α : Type} (f : α → List Value) (l : List α) (x : α) : Ae f (l ++ [x]) = Ae f l ++ f x := by rw [Cy]; simp [Ae]
theorem Jn {α : Type} (l : List α) (x : α) : (l ++ [x]).length = l.length + 1 := by simp
structure StpOf (c : Cs) (us : List Int) (time : Int) (n l : Nat) (s : Stp) : Prop where
  ticks : s.ticks = (TKf c us n us.length).2.1
  ages : s.ages = (TKf c us n us.length).2.2
  reads : s.reads = (RLf c us time (TKf c us n us.length).1 l c.p.N.toNat).1.2
  lies : s.lies = (RLf c us time (TKf c us n us.length).1 l c.p.N.toNat).2.2
  lost : s.lost = []
  off : s.off = []
  cut : s.cut = []
  join : s.join = []
def Ah0 (c : Cs) (us : List Int) (time : Int) (n l : Nat) : Nat := (RLf c us time (TKf c us n us.length).1 l c.p.N.toNat).1.1
def Agz (c : Cs) (us : List Int) (time : Int) (n l : Nat) : Nat := (RLf c us time (TKf c us n us.length).1 l c.p.N.toNat).2.1
end
section
open Tryz Go.RowKit YtaanjifekgfemaaGreat.K YtaanjifekgfemaaGreat.W YtaanjifekgfemaaGreat.LN
attribute [local irreducible] Bg Ak Bb sub neg mag Da mul Dy
theorem Qp {S ρ ty} {parts : Array (Nat × Operand)} {x0 : Int} {x1 : Bool} {x2 : Int} {x3 : Bool} {x4a : Option Addr} {x4l x4c : Nat} (hp : (parts.toList.map fun x => (x.1, ev ρ x.2)) = [(0, .int .i64 x0), (1, Value.bool x1), (2, .int .i64 x2), (3, Value.bool x3), (4, Value.slice x4a x4l x4c)]) : Y Tryz.prog S ρ (.build 43 parts) ty (.agg #[.int .i64 x0, Value.bool x1, .int .i64 x2, Value.bool x3, Value.slice x4a x4l x4c]) :=
 Y.build hp fun w => by simp [Instr.build, go_sem]
theorem Av3 {S ρ ty} {parts : Array (Nat × Operand)} {a b : Int} {x1 : ByteArray} (hp : (parts.toList.map fun x => (x.1, ev ρ x.2)) = [(0, .agg #[.int .i64 a, .int .i64 b]), (1, Value.string x1)]) : Y Tryz.prog S ρ (.build 79 parts) ty (.agg #[.int .i64 a, .int .i64 b, Value.string x1]) :=
 Y.build hp fun w => by simp [Instr.build, go_sem]
theorem Am4 {S ρ ty} {parts : Array (Nat × Operand)} {x0 x1 : Int} (hp : (parts.toList.map fun x => (x.1, ev ρ x.2)) = [(0, .int .i64 x0), (1, .int .i64 x1)]) : Y Tryz.prog S ρ (.build 119 parts) ty (.agg #[.int .i64 x0, .int .i64 x1]) :=
 Y.build hp fun w => by simp [Instr.build, go_sem]
theorem Am5 {S ρ ty} {parts : Array (Nat × Operand)} {a b x1 : Int} (hp : (parts.toList.map fun x => (x.1, ev ρ x.2)) = [(0, .agg #[.int .i64 a, .int .i64 b]), (1, .int .i64 x1)]) : Y Tryz.prog S ρ (.build 121 parts) ty (.agg #[.int .i64 a, .int .i64 b, .int .i64 x1]) :=
 Y.build hp fun w => by simp [Instr.build, go_sem]
theorem Vv : FA 47 1 20 := fun _ _ => by simp [Instr.fieldAt, Instr.sureAddr, go_sem]
theorem Ab9 : FA 47 3 22 := fun _ _ => by simp [Instr.fieldAt, Instr.sureAddr, go_sem]
theorem cf9 : CF 9 := fun _ _ => by simp [go_sem]
theorem Bnq : CF 10 := fun _ _ => by simp [go_sem]
theorem Bj6 : CF 43 := fun _ _ => by simp [go_sem]
theorem Bu8 : CF 44 := fun _ _ => by simp [go_sem]
theorem Bc3 : (Tryz.prog.info? 119).map (fun i => (i.zero, i.size, i.bytes)) = some (some (.agg #[Value.int .i64 0, Value.int .i64 0]), 2, 16) := by kernel_rfl
theorem Bc4 : (Tryz.prog.info? 121).map (fun i => (i.zero, i.size, i.bytes)) = some (some (.agg #[Value.int .i64 0, Value.int .i64 0, Value.int .i64 0]), 3, 24) := by kernel_rfl
theorem Bkx : (Tryz.prog.info? 43).map (fun i => (i.zero, i.size, i.bytes)) = some (some (.agg #[Value.int .i64 0, Value.bool false, Value.int .i64 0, Value.bool false, Value.slice none 0 0]), 5, 56) := by kernel_rfl
theorem Bl0 : (Tryz.prog.info? 79).map (fun i => (i.zero, i.size, i.bytes)) = some (some (.agg #[Value.int .i64 0, Value.int .i64 0, Value.string ⟨#[]⟩]), 3, 32) := by kernel_rfl
theorem X.loud {P : Program} {S : World → Prop} {ρ : Env} {w : World} {op : Op} {ty : TypeId} {v : Value} (hS : S w) (hy : Y P S ρ op ty v) {K : Value → World → Prop} (k : K v w) : X P ρ w op ty K := by
 intro a ops Q o h1 h2 h3 h4; refine wpl h4 (v := v) (w' := w) ?_ ⟨v, rfl, k⟩; rw [h3]; exact hy w hS o h1 h2
set_option maxHeartbeats 8000000 in
theorem Oo (tbl : List Int) (htl : tbl.length = 20) (rb : Nat) (c : Cs) (wb n l : Nat) (nd : Nat) (hnd : c.nodes = (nd : Int)) (hn6 : nd ≤ 6) (hok : c.p.Ok) (hN7 : c.p.N ≤ 7) (hnl : c.noise.length ≤ 1000) (hll : c.lies.length ≤ 40) (hn : n ≤ 1000000) (hl : l ≤ 1000000) (x : Wd) (us : List Int) (hus : Ai c.p.N.toNat nd = us) (hlk : x.links.length ≤ 900000) (htm : -2305843009213693952 ≤ x.time ∧ x.time ≤ 2305843009213693952) (w0 w : World) (F0 : List Nat) (L G : List Res) (I : St w0 F0 w (Aa rb (Fy c wb n l) 47 :: x.res c.p wb L) G) (hx : x.Ok c.p nd G) (hin : c.In G) (hrn : Rds [] G (.slice none 0 0) 0 []) (hpw : Gw tbl ∈ G) :
    Calls Tryz.prog 16 #[.pointer (some ⟨rb, 0, none⟩), .bool true, .bool false, .slice none 0 0] w fun e w' => ∃ (stp : Stp) (x' : Wd) (G1 G' : List Res), e = .returned (.tuple #[]) ∧ StpOf c us x.time n l stp ∧ StepW c.p stp G1 G' x x' ∧ x'.Ok c.p nd G' ∧ (∀ r ∈ G, r ∈ G') ∧ St w0 F0 w' (Aa rb (Fy c wb (Ah0 c us x.time n l) (Agz c us x.time n l)) 47 :: x'.res c.p wb L) G' := by
  have hN := hok.N; have hB := hok.Beat; have hRho := hok.Rho; have hDel := hok.Delay; have hJit := hok.Jitter; have hEps := hok.Eps; have hF := hok.F; have hnd2 : nd ≤ 32 := by omega
  have hul : us.length = c.p.N.toNat + nd := by rw [← hus, Eu]
  refine W.func func16 O ntmps16 O<|Wh O<|I.p O O<|I.t O O<|I.f Hw O O<|I.f Jy O O<|I.y O (Y.loadA 0 isAgg23 sizeOf23 O O O O)<|Ow O (X.allocA I zeroValue23 fun p8 w8 I => Ow O (X.storeS I 0 sizeOf23 O O O O O (lZ O) O O fun _ I => Ds O O<|Ow O (X.allocA I zeroValue40 fun p9 w9 I => Ds O O<|I.p O O<|Oc O Bnq O ?_))); refine Ab (U2 rb c wb n l hok nd hnd hnd2 _ _ _ _ _ I.up_2) O ?_; clear I; rintro e w24 ⟨A24, c24, rfl, I⟩; rw [hus] at I; refine ⟨_, O, ?_⟩; refine I.y O (Y.assignS O)<|Od O<|Wq O<|Wh O<|?_; replace I := ((((((I.nilRow 79 3).nilRow 43 5).nilRow 121 3).nilRow 119 2).up_5).up_7).up_7; refine I.s O O<|I.y O (Y.lenS underlying24 O)<|I.u O O<|Od O<|Wb O<|?_; refine W.loop (γ := Nat × Option Addr × Nat × Option Addr × Nat) [(0, .pointer _), (1, .bool _), (2, .bool _), (3, .slice _ _ _), (8, .pointer _), (9, .pointer _), (10, .slice _ _ _), (25, .slice _ _ _), (26, .int _ _)] (fun x_ => [(27, .int .i64 (x_.1 : Int))]) (fun x_ w => x_.1 ≤ us.length ∧ St w0 F0 w (Aa p9 (Ms (((TKf c us n x_.1).2.1).length) ((([] : List Rd)).length) (((TKf c us n x_.1).2.2).length) ((([] : List Li)).length) x_.2.1 x_.2.2.1 none 0 x_.2.2.2.1 x_.2.2.2.2 none 0) 40 :: Aa p8 (E4 c.p) 23 :: Aa rb (Fy c wb ((TKf c us n x_.1).1) (l)) 47 :: Af (.slice x_.2.1 (((TKf c us n x_.1).2.1).length) x_.2.2.1) 119 2 (((TKf c us n x_.1).2.1).length) (Ae Aq ((TKf c us n x_.1).2.1)) :: Af (.slice x_.2.2.2.1 (((TKf c us n x_.1).2.2).length) x_.2.2.2.2) 121 3 (((TKf c us n x_.1).2.2).length) (Ae agC ((TKf c us n x_.1).2.2)) :: Af (.slice none ((([] : List Rd)).length) 0) 43 5 ((([] : List Rd)).length) (Ae rdC (([] : List Rd))) :: Af (.slice none ((([] : List Li)).length) 0) 79 3 ((([] : List Li)).length) (Ae liC (([] : List Li))) :: Af (.slice A24 (c.p.N.toNat + nd) c24) 3 1 (c.p.N.toNat + nd) (ivs (us)) :: x.res c.p wb L) G) (fun x_ => us.length - x_.1) ((0, none, 0, none, 0)) O ⟨O, O, O, O, O, O, O, O, O, trivial⟩ ?_ ?_ ?_
  · exact ⟨O, trivial⟩
  · exact ⟨Nat.zero_le _, I⟩
  · clear I; rintro ⟨k, A0, c0, A2, c2⟩ j w4 ⟨hk, I⟩; dsimp only at hk I; refine Wh O<|I.v O O O (fun b28 hb28 => Od O<|Wq O<|?_); cases b28
    · replace hb28 := dF hb28; refine Wu O O<|W.exit O<|Wq O<|Wq O<|?_; obtain rfl : k = us.length := by omega
      refine Wr O<|I.a O O<|Od O<|Wb O<|?_; refine W.loop (γ := Nat × Option Addr × Nat × Option Addr × Nat) [(0, .pointer _), (1, .bool _), (2, .bool _), (3, .slice _ _ _), (8, .pointer _), (9, .pointer _), (10, .slice _ _ _)] (fun x_ => [(15, .int .i64 (x_.1 : Int))]) (fun x_ w => x_.1 ≤ c.p.N.toNat ∧ St w0 F0 w (Aa p9 (Ms (((TKf c us n us.length).2.1).length) (((RLf c us x.time (TKf c us n us.length).1 l x_.1).1.2).length) (((TKf c us n us.length).2.2).length) (((RLf c us x.time (TKf c us n us.length).1 l x_.1).2.2).length) A0 c0 x_.2.1 x_.2.2.1 A2 c2 x_.2.2.2.1 x_.2.2.2.2) 40 :: Aa p8 (E4 c.p) 23 :: Aa rb (Fy c wb ((RLf c us x.time (TKf c us n us.length).1 l x_.1).1.1) ((RLf c us x.time (TKf c us n us.length).1 l x_.1).2.1)) 47 :: Af (.slice A0 (((TKf c us n us.length).2.1).length) c0) 119 2 (((TKf c us n us.length).2.1).length) (Ae Aq ((TKf c us n us.length).2.1)) :: Af (.slice A2 (((TKf c us n us.length).2.2).length) c2) 121 3 (((TKf c us n us.length).2.2).length) (Ae agC ((TKf c us n us.length).2.2)) :: Af (.slice x_.2.1 (((RLf c us x.time (TKf c us n us.length).1 l x_.1).1.2).length) x_.2.2.1) 43 5 (((RLf c us x.time (TKf c us n us.length).1 l x_.1).1.2).length) (Ae rdC ((RLf c us x.time (TKf c us n us.length).1 l x_.1).1.2)) :: Af (.slice x_.2.2.2.1 (((RLf c us x.time (TKf c us n us.length).1 l x_.1).2.2).length) x_.2.2.2.2) 79 3 (((RLf c us x.time (TKf c us n us.length).1 l x_.1).2.2).length) (Ae liC ((RLf c us x.time (TKf c us n us.length).1 l x_.1).2.2)) :: Af (.slice A24 (c.p.N.toNat + nd) c24) 3 1 (c.p.N.toNat + nd) (ivs (us)) :: x.res c.p wb L) G) (fun x_ => c.p.N.toNat - x_.1) ((0, none, 0, none, 0)) O ⟨O, O, O, O, O, O, O, trivial⟩ ?_ ?_ ?_
      · exact ⟨O, trivial⟩
      · exact ⟨Nat.zero_le _, I⟩
      · clear I; rintro ⟨i, A1, c1, A4, c4⟩ j w14 ⟨hi, I⟩; dsimp only at hi I; refine Wq O<|Wh O<|I.u O O<|I.f F3 O O<|I.l 1 O O O O<|I.v O O O (fun b84 hb84 => Od O<|?_); cases b84
        · replace hb84 := dF hb84; refine Wu O O<|W.exit O<|?_; obtain rfl : i = c.p.N.toNat := by omega
          have hi1 : c.p.N.toNat ≤ 7 := by omega
          obtain ⟨hb1, hb2, hb3⟩ := Ag8 c us n us.length (Nat.le_refl _); have hsq : us.length * us.length ≤ 13 * 13 := Nat.mul_le_mul (by omega) (by omega); have hsq2 : us.length * (us.length + 1) ≤ 13 * 14 := Nat.mul_le_mul (by omega) (by omega)
          obtain ⟨hr1, hr2, hr3, hr4⟩ := Au9 c us x.time (TKf c us n us.length).1 l c.p.N.toNat
          have hsq3 : c.p.N.toNat * us.length ≤ 7 * 13 := Nat.mul_le_mul (by omega) (by omega); replace I := (((I.up_3.toFact).up_3.toFact).up_3.toFact).up_3.toFact; obtain ⟨stp, hse⟩ : ∃ s : Stp, s = ⟨(TKf c us n us.length).2.1, (RLf c us x.time (TKf c us n us.length).1 l c.p.N.toNat).1.2, (TKf c us n us.length).2.2, [], (RLf c us x.time (TKf c us n us.length).1 l c.p.N.toNat).2.2, [], [], [], (A0, c0), (A1, c1), (A2, c2), (none, 0), (A4, c4), (none, 0), (none, 0), (none, 0)⟩ := ⟨_, rfl⟩; have hsj : stp.join = [] := by rw [hse]
          have hof : StpOf c us x.time n l stp := by rw [hse]; exact ⟨O, O, O, O, O, O, O, O⟩
          obtain ⟨G1, hg1⟩ : ∃ G1, G1 = Af (.slice A4 (((RLf c us x.time (TKf c us n us.length).1 l c.p.N.toNat).2.2).length) c4) 79 3 (((RLf c us x.time (TKf c us n us.length).1 l c.p.N.toNat).2.2).length) (Ae liC ((RLf c us x.time (TKf c us n us.length).1 l c.p.N.toNat).2.2)) :: Af (.slice A1 (((RLf c us x.time (TKf c us n us.length).1 l c.p.N.toNat).1.2).length) c1) 43 5 (((RLf c us x.time (TKf c us n us.length).1 l c.p.N.toNat).1.2).length) (Ae rdC ((RLf c us x.time (TKf c us n us.length).1 l c.p.N.toNat).1.2)) :: Af (.slice A2 (((TKf c us n us.length).2.2).length) c2) 121 3 (((TKf c us n us.length).2.2).length) (Ae agC ((TKf c us n us.length).2.2)) :: Af (.slice A0 (((TKf c us n us.length).2.1).length) c0) 119 2 (((TKf c us n us.length).2.1).length) (Ae Aq ((TKf c us n us.length).2.1)) :: G := ⟨_, rfl⟩; rw [← hg1] at I; have hG1 : ∀ r ∈ G, r ∈ G1 := fun r hr => by rw [hg1]; exact .tail _ (.tail _ (.tail _ (.tail _ hr)))
          have hrn1 := hrn.moreG hG1
          have hstp : stp.Ok G1 := by
            rw [hse, hg1]; rw [hg1] at hrn1; refine ⟨Rds.rowG 3 O, Rds.rowG 1 O, Rds.rowG 2 O, hrn1, Rds.rowG 0 O, hrn1, hrn1, hrn1, ?_, ?_⟩
            · dsimp only [List.length_nil]; omega
            · intro r hr; have hr2 : r.tab = [] ∧ r.A = none ∧ r.cap = 0 := A82 c us x.time _ l _ r hr; obtain ⟨q1, q2, q3⟩ := hr2; rw [q1, q2, q3]; exact ⟨Cz Ek, hrn1⟩
          have hcells : Aa p9 (Ms ((TKf c us n us.length).2.1.length) ((RLf c us x.time (TKf c us n us.length).1 l c.p.N.toNat).1.2.length) ((TKf c us n us.length).2.2.length) ((RLf c us x.time (TKf c us n us.length).1 l c.p.N.toNat).2.2.length) A0 c0 A1 c1 A2 c2 A4 c4) 40 = Aa p9 (Kc stp) 40 := by rw [hse]; rfl
          rw [hcells] at I; refine I.dv [5] (T0 [0,1,2,3,4] (.op 5 1 .nil)) O (by kernel_rfl) O (by kernel_rfl) fun wd I => ?_; refine I.zp O O<|I.zt O O<|I.zf Vv O O<|I.z O (Y.load 2 isAgg45 O O O)<|I.z O (Y.loadA 0 isAgg40 sizeOf40 O O O O)<|Drw.z O O O O (X.call cf9 O<|?_); refine Ab (Aa3 tbl htl stp wb c.p hok nd hnd2 x _ _ _ _ _ (I.resDn [_, _, _, _]) (hx.mono hG1) (by rw [hsj]; exact hlk) hstp (hG1 _ hpw)) O ?_; clear I; rintro e w173 ⟨x', G', rfl, hstep, hx', hG', I⟩; replace I := I.resUp [_, _, _, _]; refine ⟨_, O, ?_⟩; refine Dd<|⟨_, Ac.none results16, ?_⟩; exact ⟨stp, x', G1, G', O, hof, hstep, hx', fun r hr => hG' r (hG1 r hr), (I.sub (.cons _ (.cons _ (.cons_cons _ (.cons _ (.refl _))))))⟩
        · replace hb84 := dT hb84; refine Wt O O<|Wk O<|Wq O<|Wb O<|Wq O<|Wq O<|?_; have hi1 : i < c.p.N.toNat := by omega
          obtain ⟨hb1, hb2, hb3⟩ := Ag8 c us n us.length (Nat.le_refl _); have hsq : us.length * us.length ≤ 13 * 13 := Nat.mul_le_mul (by omega) (by omega); have hsq2 : us.length * (us.length + 1) ≤ 13 * 14 := Nat.mul_le_mul (by omega) (by omega); obtain ⟨hr1, hr2, hr3, hr4⟩ := Au9 c us x.time (TKf c us n us.length).1 l i; have hsq3 : i * us.length ≤ 7 * 13 := Nat.mul_le_mul (by omega) (by omega); refine Wr O<|I.u O O<|I.f F3 O O<|I.l 1 O O O O<|I.f N0 O O<|I.l 1 O O O O<|I.y O (Y.subI O O (by omega))<|I.v O O O (fun b93 hb93 => Od O<|?_); cases b93
          · replace hb93 := dF hb93; refine Wu O O<|Wk O<|Wh O<|I.s O O<|I.y O (Y.lenS underlying24 O)<|I.u O O<|Od O<|Wb O<|?_; refine W.loop (γ := Nat × Option Addr × Nat) [(0, .pointer _), (1, .bool _), (2, .bool _), (3, .slice _ _ _), (8, .pointer _), (9, .pointer _), (10, .slice _ _ _), (15, .int _ _), (120, .slice _ _ _), (121, .int _ _)] (fun x_ => [(122, .int .i64 (x_.1 : Int))]) (fun x_ w => x_.1 ≤ us.length ∧ St w0 F0 w (Aa p9 (Ms (((TKf c us n us.length).2.1).length) (((RLf c us x.time (TKf c us n us.length).1 l i).1.2).length) (((TKf c us n us.length).2.2).length) (((LIf c us i (RLf c us x.time (TKf c us n us.length).1 l i).2 x_.1).2).length) A0 c0 A1 c1 A2 c2 x_.2.1 x_.2.2) 40 :: Aa p8 (E4 c.p) 23 :: Aa rb (Fy c wb ((RLf c us x.time (TKf c us n us.length).1 l i).1.1) ((LIf c us i (RLf c us x.time (TKf c us n us.length).1 l i).2 x_.1).1)) 47 :: Af (.slice A0 (((TKf c us n us.length).2.1).length) c0) 119 2 (((TKf c us n us.length).2.1).length) (Ae Aq ((TKf c us n us.length).2.1)) :: Af (.slice A2 (((TKf c us n us.length).2.2).length) c2) 121 3 (((TKf c us n us.length).2.2).length) (Ae agC ((TKf c us n us.length).2.2)) :: Af (.slice A1 (((RLf c us x.time (TKf c us n us.length).1 l i).1.2).length) c1) 43 5 (((RLf c us x.time (TKf c us n us.length).1 l i).1.2).length) (Ae rdC ((RLf c us x.time (TKf c us n us.length).1 l i).1.2)) :: Af (.slice x_.2.1 (((LIf c us i (RLf c us x.time (TKf c us n us.length).1 l i).2 x_.1).2).length) x_.2.2) 79 3 (((LIf c us i (RLf c us x.time (TKf c us n us.length).1 l i).2 x_.1).2).length) (Ae liC ((LIf c us i (RLf c us x.time (TKf c us n us.length).1 l i).2 x_.1).2)) :: Af (.slice A24 (c.p.N.toNat + nd) c24) 3 1 (c.p.N.toNat + nd) (ivs (us)) :: x.res c.p wb L) G) (fun x_ => us.length - x_.1) ((0, A4, c4)) O ⟨O, O, O, O, O, O, O, O, O, O, trivial⟩ ?_ ?_ ?_
            · exact ⟨O, trivial⟩
            · exact ⟨Nat.zero_le _, I⟩
            · clear I; rintro ⟨m, A4, c4⟩ j w19 ⟨hm, I⟩; dsimp only at hm I; refine Wh O<|I.v O O O (fun b123 hb123 => Od O<|Wq O<|?_); cases b123
              · replace hb123 := dF hb123; refine Wu O O<|W.exit O<|Wr O<|I.u O O<|I.j O O O (by omega)<|I.a O O<|Od O<|?_; have hst2 := I; have e1 := Kl c us x.time (TKf c us n us.length).1 l i
                first
                | (have hc : ¬ (i : Int) < c.p.N - c.p.F := hb93
                   obtain rfl : m = us.length := by omega
                   have e2 : (RLf c us x.time (TKf c us n us.length).1 l (i + 1)) = ((RLf c us x.time (TKf c us n us.length).1 l i).1, (LIf c us i (RLf c us x.time (TKf c us n us.length).1 l i).2 us.length)) := e1.trans (if_neg hc); refine ⟨(i + 1, A1, c1, A4, c4), ⟨O, trivial⟩, ⟨O, O, O, O, O, O, O, trivial⟩, ⟨by dsimp only; omega, ?_⟩, by dsimp only; omega⟩; dsimp only; rw [e2]
                   exact hst2)
                | (have hc : (i : Int) < c.p.N - c.p.F := hb93
                   have e2 : (RLf c us x.time (TKf c us n us.length).1 l (i + 1)) = ((Wp c (RLf c us x.time (TKf c us n us.length).1 l i).1.1, (RLf c us x.time (TKf c us n us.length).1 l i).1.2 ++ [⟨(i : Int), true, Ul c x.time (RLf c us x.time (TKf c us n us.length).1 l i).1.1, false, [], none, 0⟩]), (RLf c us x.time (TKf c us n us.length).1 l i).2) := e1.trans (if_pos hc); refine ⟨(i + 1, A118, c118, A4, c4), ⟨O, trivial⟩, ⟨O, O, O, O, O, O, O, trivial⟩, ⟨by dsimp only; omega, ?_⟩, by dsimp only; omega⟩; dsimp only; rw [e2]; dsimp only; rw [Jn (RLf c us x.time (TKf c us n us.length).1 l i).1.2, Hj rdC]
                   exact hst2)
              · replace hb123 := dT hb123; refine Wt O O<|Wk O<|Wq O<|Wb O<|Wq O<|?_; have hm1 : m < us.length := by omega
                obtain ⟨ha1, ha2⟩ := Bfx c us i (RLf c us x.time (TKf c us n us.length).1 l i).2 m (by omega); refine Wr rfl<|I.y rfl (Y.indexAddr underlying24 sizeOf3 rfl rfl ((Rds.sl (Rds.rowL 7 (by rfl)) I).ne (by simp [ivs]; omega)) (by omega))<|?_; refine I.y O (Y.cast (Y.loadSl isAgg3 O (Rds.rowL 7 O) (Ef (l := us) (k := m) (by omega))) O)<|I.a O O<|Ds O O<|I.p O O<|I.t O O<|I.f Hw O O<|I.f Q6 O O<|I.y O (Y.load 2 isAgg28 O O O)<|I.y O (Y.lenS underlying28 O)<|I.V O O O (fun b132 hb132 => Od O<|?_); cases b132
                · replace hb132 := dF hb132; refine Wu O O<|Wk O<|Wr O<|I.j O O O (by omega)<|I.u O O<|Od O<|?_; have hst2 := I; have e1 : (LIf c us i (RLf c us x.time (TKf c us n us.length).1 l i).2 (m + 1)) = Apz c i (LIf c us i (RLf c us x.time (TKf c us n us.length).1 l i).2 m) (us.getD m 0) := by rw [Qk c us i _ m hm1, show us[m] = us.getD m 0 by simp [hm1]]
                  first
                  | (have hc : ¬ c.lies = [] := fun h => by (have := congrArg List.length h; rw [List.length_nil] at this; omega)
                     have e2 : (LIf c us i (RLf c us x.time (TKf c us n us.length).1 l i).2 (m + 1)) = ((LIf c us i (RLf c us x.time (TKf c us n us.length).1 l i).2 m).1 + 1, (LIf c us i (RLf c us x.time (TKf c us n us.length).1 l i).2 m).2 ++ [⟨(i : Int), us.getD m 0, Yg c (LIf c us i (RLf c us x.time (TKf c us n us.length).1 l i).2 m).1⟩]) := e1.trans (if_neg hc); refine ⟨(m + 1, A158, c158), ⟨O, trivial⟩, ⟨O, O, O, O, O, O, O, O, O, O, trivial⟩, ⟨by dsimp only; omega, ?_⟩, by dsimp only; omega⟩; dsimp only; rw [e2]; dsimp only; rw [Jn (LIf c us i (RLf c us x.time (TKf c us n us.length).1 l i).2 m).2, Hj liC]
                     exact hst2)
                  | (have hc : c.lies = [] := List.eq_nil_of_length_eq_zero (by omega)
                     have e2 : (LIf c us i (RLf c us x.time (TKf c us n us.length).1 l i).2 (m + 1)) = (LIf c us i (RLf c us x.time (TKf c us n us.length).1 l i).2 m) := e1.trans (if_pos hc); refine ⟨(m + 1, A4, c4), ⟨O, trivial⟩, ⟨O, O, O, O, O, O, O, O, O, O, trivial⟩, ⟨by dsimp only; omega, ?_⟩, by dsimp only; omega⟩; dsimp only; rw [e2]
                     exact hst2)
                · replace hb132 := dT hb132; refine Wt O O<|Wq O<|?_; have hpos : 0 < c.lies.length := by omega
                  have hlt : (LIf c us i (RLf c us x.time (TKf c us n us.length).1 l i).2 m).1 % c.lies.length < c.lies.length := Nat.mod_lt _ hpos; have hrem : (((LIf c us i (RLf c us x.time (TKf c us n us.length).1 l i).2 m).1 : Nat) : Int) % (c.lies.length : Int) = (((LIf c us i (RLf c us x.time (TKf c us n us.length).1 l i).2 m).1 % c.lies.length : Nat) : Int) := by simp
                  have hla : c.lies[(LIf c us i (RLf c us x.time (TKf c us n us.length).1 l i).2 m).1 % c.lies.length] = Yg c (LIf c us i (RLf c us x.time (TKf c us n us.length).1 l i).2 m).1 := by unfold Yg; simp [hlt]
                  refine W.drawn rfl (by kernel_rfl) (Ctx _ _ ([Aa p9 (Ms ((TKf c us n us.length).2.1.length) ((RLf c us x.time (TKf c us n us.length).1 l i).1.2.length) ((TKf c us n us.length).2.2.length) ((LIf c us i (RLf c us x.time (TKf c us n us.length).1 l i).2 m).2.length) A0 c0 A1 c1 A2 c2 A4 c4) 40, Aa p8 (E4 c.p) 23, Aa rb (Fy c wb ((RLf c us x.time (TKf c us n us.length).1 l i).1.1) ((LIf c us i (RLf c us x.time (TKf c us n us.length).1 l i).2 m).1)) 47]) (G)) [27] (T0 [0,1,2,3,4,5,6,7,8,9,10,11,12,13,14,15,16,17,18,19,20,21,22,23] (T1 [24,25] (.op 26 0 (.op 27 1 .nil)))) rfl (by kernel_rfl) (I.drew.sub (by repeat first|exact Q3|refine .cons _ ?_)).ctx ?_; replace I := I.drew; generalize World.drew _ = wd at I ⊢; refine Dq rfl (I.sub (by repeat first|exact Q3|refine .cons _ ?_)).ctx (Y.fieldAddr Ab7 O) ?_; refine Dq rfl (I.sub (by repeat first|exact Q3|refine .cons _ ?_)).ctx (Y.load 0 isAgg27 O O O) ?_; refine Dq rfl (I.sub (by repeat first|exact Q3|refine .cons _ ?_)).ctx (Y.moveI O) ?_; refine Dq rfl (I.sub (by repeat first|exact Q3|refine .cons _ ?_)).ctx (Y.moveI O) ?_; refine Dq rfl (I.sub (by repeat first|exact Q3|refine .cons _ ?_)).ctx (Hr O) ?_; refine Dq rfl (I.sub (by repeat first|exact Q3|refine .cons _ ?_)).ctx (Y.moveP O) ?_; refine Dq rfl (I.sub (by repeat first|exact Q3|refine .cons _ ?_)).ctx (Y.nilCheck O) ?_; refine Dq rfl (I.sub (by repeat first|exact Q3|refine .cons _ ?_)).ctx (Y.fieldAddr Hw O) ?_; refine Dq rfl (I.sub (by repeat first|exact Q3|refine .cons _ ?_)).ctx (Y.fieldAddr Q6 O) ?_; refine Dq rfl (I.sub (by repeat first|exact Q3|refine .cons _ ?_)).ctx (Y.load 2 isAgg28 O O O) ?_; refine Dq rfl (I.sub (by repeat first|exact Q3|refine .cons _ ?_)).ctx (Y.moveP O) ?_; refine Dq rfl (I.sub (by repeat first|exact Q3|refine .cons _ ?_)).ctx (Y.nilCheck O) ?_; refine Dq rfl (I.sub (by repeat first|exact Q3|refine .cons _ ?_)).ctx (Y.fieldAddr Ab9 O) ?_; refine Dq rfl (I.sub (by repeat first|exact Q3|refine .cons _ ?_)).ctx (Y.load 2 isAgg3 O O O) ?_; refine Dq rfl (I.sub (by repeat first|exact Q3|refine .cons _ ?_)).ctx (Y.moveP O) ?_; refine Dq rfl (I.sub (by repeat first|exact Q3|refine .cons _ ?_)).ctx (Y.nilCheck O) ?_; refine Dq rfl (I.sub (by repeat first|exact Q3|refine .cons _ ?_)).ctx (Y.fieldAddr Hw O) ?_; refine Dq rfl (I.sub (by repeat first|exact Q3|refine .cons _ ?_)).ctx (Y.fieldAddr Q6 O) ?_; refine Dq rfl (I.sub (by repeat first|exact Q3|refine .cons _ ?_)).ctx (Y.load 2 isAgg28 O O O) ?_; refine Dq rfl (I.sub (by repeat first|exact Q3|refine .cons _ ?_)).ctx (Y.lenS underlying28 O) ?_; refine Dq rfl (I.sub (by repeat first|exact Q3|refine .cons _ ?_)).ctx (Y.remI O O (by omega)) ?_; refine Dq rfl (I.sub (by repeat first|exact Q3|refine .cons _ ?_)).ctx (Y.indexAddr underlying28 sizeOf9 rfl rfl ((hin.lies.hd.sl I).ne (by simp [Mm]; omega)) (by omega)) ?_; refine Dq rfl (I.sub (by repeat first|exact Q3|refine .cons _ ?_)).ctx (Y.cast (Y.loadSl isAgg9 O hin.lies.hd (K8 hlt)) (congrArg Value.string hla)) ?_; refine Dq rfl (I.sub (by repeat first|exact Q3|refine .cons _ ?_)).ctx (Av3 O) ?_; refine Dw rfl (X.lit1 I underlying27 sizeOf79 zeroValue79 rfl rfl rfl fun p157 w157 I => ⟨(I.sub (by repeat first|exact Q3|refine .cons _ ?_)).ctx, ?_⟩); refine Dw rfl (X.app I 7 0 underlying27 Bl0 rfl rfl rfl rfl rfl rfl rfl rfl (by (try dsimp only); unfold maxLen; omega) (by (try dsimp only); omega) fun A158 c158 w158 I => ⟨(I.sub (by repeat first|exact Q3|refine .cons _ ?_)).ctx, ?_⟩); refine Dq rfl (I.sub (by repeat first|exact Q3|refine .cons _ ?_)).ctx (Y.fieldAddr Ab7 O) ?_; refine Drw.z O O O O (X.storeV I 1 (.slice _ _ _) sizeOf27 O O O O (lZ O) O O fun _ I => Dd<|Wr O<|I.p O O<|I.t O O<|I.f Ab9 O O<|I.l 3 O O O O<|I.j O O O (by omega)<|I.t O O<|I.f Ab9 O O<|Ow O (X.storeV I 3 (.int _ _) sizeOf3 O O O O (lZ O) O O fun _ I => Od O<|Wr O<|I.j O O O (by omega)<|I.u O O<|Od O<|?_)); have hst2 := (I.dr 1); have e1 : (LIf c us i (RLf c us x.time (TKf c us n us.length).1 l i).2 (m + 1)) = Apz c i (LIf c us i (RLf c us x.time (TKf c us n us.length).1 l i).2 m) (us.getD m 0) := by rw [Qk c us i _ m hm1, show us[m] = us.getD m 0 by simp [hm1]]
                  first
                  | (have hc : ¬ c.lies = [] := fun h => by (have := congrArg List.length h; rw [List.length_nil] at this; omega)
                     have e2 : (LIf c us i (RLf c us x.time (TKf c us n us.length).1 l i).2 (m + 1)) = ((LIf c us i (RLf c us x.time (TKf c us n us.length).1 l i).2 m).1 + 1, (LIf c us i (RLf c us x.time (TKf c us n us.length).1 l i).2 m).2 ++ [⟨(i : Int), us.getD m 0, Yg c (LIf c us i (RLf c us x.time (TKf c us n us.length).1 l i).2 m).1⟩]) := e1.trans (if_neg hc); refine ⟨(m + 1, A158, c158), ⟨O, trivial⟩, ⟨O, O, O, O, O, O, O, O, O, O, trivial⟩, ⟨by dsimp only; omega, ?_⟩, by dsimp only; omega⟩; dsimp only; rw [e2]; dsimp only; rw [Jn (LIf c us i (RLf c us x.time (TKf c us n us.length).1 l i).2 m).2, Hj liC]
                     exact hst2)
                  | (have hc : c.lies = [] := List.eq_nil_of_length_eq_zero (by omega)
                     have e2 : (LIf c us i (RLf c us x.time (TKf c us n us.length).1 l i).2 (m + 1)) = (LIf c us i (RLf c us x.time (TKf c us n us.length).1 l i).2 m) := e1.trans (if_pos hc); refine ⟨(m + 1, A4, c4), ⟨O, trivial⟩, ⟨O, O, O, O, O, O, O, O, O, O, trivial⟩, ⟨by dsimp only; omega, ?_⟩, by dsimp only; omega⟩; dsimp only; rw [e2]
                     exact hst2)
          · replace hb93 := dT hb93; refine Wt O O<|Wq O<|?_; have hz := Jq c (RLf c us x.time (TKf c us n us.length).1 l i).1.1 (lo := -c.p.Eps) (hi := c.p.Eps) (by omega); refine W.drawn rfl (by kernel_rfl) (Ctx _ _ ([Aa p9 (Ms ((TKf c us n us.length).2.1.length) ((RLf c us x.time (TKf c us n us.length).1 l i).1.2.length) ((TKf c us n us.length).2.2.length) ((RLf c us x.time (TKf c us n us.length).1 l i).2.2.length) A0 c0 A1 c1 A2 c2 A4 c4) 40, Aa p8 (E4 c.p) 23]) (G)) [26] (T0 [0,1,2,3,4,5,6,9,10,12,13,14,15,16,17,20,21] (T1 [7,8] (.op 11 0 (.op 18 1 (T0 [19,22] (T1 [23,24] (.op 25 0 (.op 26 1 .nil)))))))) rfl (by kernel_rfl) (I.drew.sub (by repeat first|exact Q2|refine .cons _ ?_)).ctx ?_; replace I := I.drew; generalize World.drew _ = wd at I ⊢; refine Dq rfl (I.sub (by repeat first|exact Q2|refine .cons _ ?_)).ctx (Y.fieldAddr Ab5 O) ?_; refine Dq rfl (I.sub (by repeat first|exact Q2|refine .cons _ ?_)).ctx (Y.load 0 isAgg37 O O O) ?_; refine Dq rfl (I.sub (by repeat first|exact Q2|refine .cons _ ?_)).ctx (Y.moveI O) ?_; refine Dq rfl (I.sub (by repeat first|exact Q2|refine .cons _ ?_)).ctx (Y.moveB O) ?_; refine Dq rfl (I.sub (by repeat first|exact Q2|refine .cons _ ?_)).ctx (Y.moveP O) ?_; refine Dq rfl (I.sub (by repeat first|exact Q2|refine .cons _ ?_)).ctx (Y.nilCheck O) ?_; refine Dq rfl (I.sub (by repeat first|exact Q2|refine .cons _ ?_)).ctx (Y.fieldAddr Vv O) ?_; refine Dq rfl (I.sub (by repeat first|exact Q2|refine .cons _ ?_)).ctx (Y.fieldAddr I5 O) ?_; refine Dq rfl (I.sub (by repeat first|exact Q2|refine .cons _ ?_)).ctx (Y.load 1 isAgg3 O O O) ?_; refine Dq rfl (I.sub (by repeat first|exact Q2|refine .cons _ ?_)).ctx (Y.moveP O) ?_; refine Dq rfl (I.sub (by repeat first|exact Q2|refine .cons _ ?_)).ctx (Y.fieldAddr L9 O) ?_; refine Dq rfl (I.sub (by repeat first|exact Q2|refine .cons _ ?_)).ctx (Y.load 1 isAgg3 O O O) ?_; refine Dq rfl (I.sub (by repeat first|exact Q2|refine .cons _ ?_)).ctx (Y.negI O (by omega)) ?_; refine Dq rfl (I.sub (by repeat first|exact Q2|refine .cons _ ?_)).ctx (Y.fieldAddr L9 O) ?_; refine Dq rfl (I.sub (by repeat first|exact Q2|refine .cons _ ?_)).ctx (Y.load 1 isAgg3 O O O) ?_; refine Dq rfl (I.sub (by repeat first|exact Q2|refine .cons _ ?_)).ctx (Y.moveB O) ?_; refine Dq rfl (I.sub (by repeat first|exact Q2|refine .cons _ ?_)).ctx (Y.moveS O) ?_; refine Dw rfl (X.loud I.ctx (Y.load 2 isAgg45 rfl rfl rfl) ⟨(I.sub (by repeat first|exact Q2|refine .cons _ ?_)).ctx, ?_⟩); refine Dw O (X.call Bu8 O ?_); refine Ab (Bf8 wb c.p hok nd hnd2 x _ _ _ _ _ (I.resDn [_, _, _, _, _, _, _, _]) hx) O ?_; clear I; rintro e w102 ⟨rfl, I⟩; replace I := I.resUp [_, _, _, _, _, _, _, _]; simp only [List.cons_append, List.nil_append] at I; refine ⟨_, rfl, ⟨(I.sub (by repeat first|exact Q2|refine .cons _ ?_)).ctx, ?_⟩⟩; refine Dq rfl (I.sub (by repeat first|exact Q2|refine .cons _ ?_)).ctx (Y.addI O O (by omega)) ?_; refine Dw O (X.call Bj6 O ?_); refine Ab (Ol rb c wb ((RLf c us x.time (TKf c us n us.length).1 l i).1.1) _ (-c.p.Eps) (c.p.Eps) (by omega) (by omega) hnl _ _ _ _ _ I.up_2 hin) O ?_; clear I; rintro e w112 ⟨rfl, I⟩; replace I := I.dn2; refine ⟨_, rfl, ⟨(I.sub (by repeat first|exact Q2|refine .cons _ ?_)).ctx, ?_⟩⟩; refine Dq rfl (I.sub (by repeat first|exact Q2|refine .cons _ ?_)).ctx (Y.addI O O (by omega)) ?_; refine Dq rfl (I.sub (by repeat first|exact Q2|refine .cons _ ?_)).ctx (Qp O) ?_; refine Dw rfl (X.lit1 I underlying37 sizeOf43 zeroValue43 rfl rfl rfl fun p117 w117 I => ⟨(I.sub (by repeat first|exact Q2|refine .cons _ ?_)).ctx, ?_⟩); refine Dw rfl (X.app I 6 0 underlying37 Bkx rfl rfl rfl rfl rfl rfl rfl rfl (by (try dsimp only); unfold maxLen; omega) (by (try dsimp only); omega) fun A118 c118 w118 I => ⟨(I.sub (by repeat first|exact Q2|refine .cons _ ?_)).ctx, ?_⟩); refine Dq rfl (I.sub (by repeat first|exact Q2|refine .cons _ ?_)).ctx (Y.fieldAddr Ab5 O) ?_; refine Drw.z O O O O (X.storeV I 1 (.slice _ _ _) sizeOf37 O O O O (lZ O) O O fun _ I => Dd<|W.exit O<|Wr O<|I.u O O<|I.j O O O (by omega)<|I.a O O<|Od O<|?_); have hst2 := (I.dr 1); have e1 := Kl c us x.time (TKf c us n us.length).1 l i
            first
            | (have hc : ¬ (i : Int) < c.p.N - c.p.F := hb93
               obtain rfl : m = us.length := by omega
               have e2 : (RLf c us x.time (TKf c us n us.length).1 l (i + 1)) = ((RLf c us x.time (TKf c us n us.length).1 l i).1, (LIf c us i (RLf c us x.time (TKf c us n us.length).1 l i).2 us.length)) := e1.trans (if_neg hc); refine ⟨(i + 1, A1, c1, A4, c4), ⟨O, trivial⟩, ⟨O, O, O, O, O, O, O, trivial⟩, ⟨by dsimp only; omega, ?_⟩, by dsimp only; omega⟩; dsimp only; rw [e2]
               exact hst2)
            | (have hc : (i : Int) < c.p.N - c.p.F := hb93
               have e2 : (RLf c us x.time (TKf c us n us.length).1 l (i + 1)) = ((Wp c (RLf c us x.time (TKf c us n us.length).1 l i).1.1, (RLf c us x.time (TKf c us n us.length).1 l i).1.2 ++ [⟨(i : Int), true, Ul c x.time (RLf c us x.time (TKf c us n us.length).1 l i).1.1, false, [], none, 0⟩]), (RLf c us x.time (TKf c us n us.length).1 l i).2) := e1.trans (if_pos hc); refine ⟨(i + 1, A118, c118, A4, c4), ⟨O, trivial⟩, ⟨O, O, O, O, O, O, O, trivial⟩, ⟨by dsimp only; omega, ?_⟩, by dsimp only; omega⟩; dsimp only; rw [e2]; dsimp only; rw [Jn (RLf c us x.time (TKf c us n us.length).1 l i).1.2, Hj rdC]
               exact hst2)
    · replace hb28 := dT hb28; refine Wt O O<|Wk O<|Wq O<|Wb O<|Wq O<|?_; have hk1 : k < us.length := by omega
      obtain ⟨hb1, hb2, hb3⟩ := Ag8 c us n k (by omega); have hsq : k * us.length ≤ 13 * 13 := Nat.mul_le_mul (by omega) (by omega); have hsq2 : k * (us.length + 1) ≤ 13 * 14 := Nat.mul_le_mul (by omega) (by omega); refine Wr rfl<|I.y rfl (Y.indexAddr underlying24 sizeOf3 rfl rfl ((Rds.sl (Rds.rowL 7 (by rfl)) I).ne (by simp [ivs]; omega)) (by omega))<|?_; refine I.y O (Y.cast (Y.loadSl isAgg3 O (Rds.rowL 7 O) (Ef (l := us) (k := k) (by omega))) O)<|I.a O O<|Od O<|Wq O<|?_; have hz := Jq c (TKf c us n k).1 (lo := -c.p.Rho) (hi := c.p.Rho) (by omega); refine W.drawn rfl (by kernel_rfl) (Ctx _ _ ([Aa p9 (Ms ((TKf c us n k).2.1.length) (0) ((TKf c us n k).2.2.length) (0) A0 c0 none 0 A2 c2 none 0) 40, Aa p8 (E4 c.p) 23]) (G)) [17] (T0 [0,1,2,3,4,5,6,7,8,9,10] (.op 11 1 (T0 [12,13] (T1 [14,15] (.op 16 0 (.op 17 1 .nil)))))) rfl (by kernel_rfl) (I.drew.sub (by repeat first|exact Q2|refine .cons _ ?_)).ctx ?_; replace I := I.drew; generalize World.drew _ = wd at I ⊢; refine Dq rfl (I.sub (by repeat first|exact Q2|refine .cons _ ?_)).ctx (Y.fieldAddr Ab4 O) ?_; refine Dq rfl (I.sub (by repeat first|exact Q2|refine .cons _ ?_)).ctx (Y.load 0 isAgg36 O O O) ?_; refine Dq rfl (I.sub (by repeat first|exact Q2|refine .cons _ ?_)).ctx (Y.moveI O) ?_; refine Dq rfl (I.sub (by repeat first|exact Q2|refine .cons _ ?_)).ctx (Y.fieldAddr I5 O) ?_; refine Dq rfl (I.sub (by repeat first|exact Q2|refine .cons _ ?_)).ctx (Y.load 1 isAgg3 O O O) ?_; refine Dq rfl (I.sub (by repeat first|exact Q2|refine .cons _ ?_)).ctx (Y.moveP O) ?_; refine Dq rfl (I.sub (by repeat first|exact Q2|refine .cons _ ?_)).ctx (Y.fieldAddr F4 O) ?_; refine Dq rfl (I.sub (by repeat first|exact Q2|refine .cons _ ?_)).ctx (Y.load 1 isAgg3 O O O) ?_; refine Dq rfl (I.sub (by repeat first|exact Q2|refine .cons _ ?_)).ctx (Y.negI O (by omega)) ?_; refine Dq rfl (I.sub (by repeat first|exact Q2|refine .cons _ ?_)).ctx (Y.fieldAddr F4 O) ?_; refine Dq rfl (I.sub (by repeat first|exact Q2|refine .cons _ ?_)).ctx (Y.load 1 isAgg3 O O O) ?_; refine Dw O (X.call Bj6 O ?_); refine Ab (Ol rb c wb ((TKf c us n k).1) _ (-c.p.Rho) (c.p.Rho) (by omega) (by omega) hnl _ _ _ _ _ I.up_2 hin) O ?_; clear I; rintro e w42 ⟨rfl, I⟩; replace I := I.dn2; refine ⟨_, rfl, ⟨(I.sub (by repeat first|exact Q2|refine .cons _ ?_)).ctx, ?_⟩⟩; refine Dq rfl (I.sub (by repeat first|exact Q2|refine .cons _ ?_)).ctx (Y.addI O O (by omega)) ?_; refine Dq rfl (I.sub (by repeat first|exact Q2|refine .cons _ ?_)).ctx (Am4 O) ?_; refine Dw rfl (X.lit1 I underlying36 sizeOf119 zeroValue119 rfl rfl rfl fun p45 w45 I => ⟨(I.sub (by repeat first|exact Q2|refine .cons _ ?_)).ctx, ?_⟩); refine Dw rfl (X.app I 4 0 underlying36 Bc3 rfl rfl rfl rfl rfl rfl rfl rfl (by (try dsimp only); unfold maxLen; omega) (by (try dsimp only); omega) fun A46 c46 w46 I => ⟨(I.sub (by repeat first|exact Q2|refine .cons _ ?_)).ctx, ?_⟩); refine Dq rfl (I.sub (by repeat first|exact Q2|refine .cons _ ?_)).ctx (Y.fieldAddr Ab4 O) ?_; refine Drw.z O O O O (X.storeV I 1 (.slice _ _ _) sizeOf36 O O O O (lZ O) O O fun _ I => Dd<|Wh O<|I.s O O<|I.y O (Y.lenS underlying24 O)<|I.u O O<|Od O<|Wb O<|?_); refine W.loop (γ := Nat × Option Addr × Nat) [(0, .pointer _), (1, .bool _), (2, .bool _), (3, .slice _ _ _), (8, .pointer _), (9, .pointer _), (10, .slice _ _ _), (12, .int _ _), (25, .slice _ _ _), (26, .int _ _), (27, .int _ _), (48, .slice _ _ _), (49, .int _ _)] (fun x_ => [(50, .int .i64 (x_.1 : Int))]) (fun x_ w => x_.1 ≤ us.length ∧ St w0 F0 w (Aa p9 (Ms ((((TKf c us n k).2.1 ++ [(us.getD k 0, L6 c (TKf c us n k).1)])).length) ((([] : List Rd)).length) (((AGf c us (us.getD k 0) (Du c (TKf c us n k).1, (TKf c us n k).2.2) x_.1).2).length) ((([] : List Li)).length) A46 c46 none 0 x_.2.1 x_.2.2 none 0) 40 :: Aa p8 (E4 c.p) 23 :: Aa rb (Fy c wb ((AGf c us (us.getD k 0) (Du c (TKf c us n k).1, (TKf c us n k).2.2) x_.1).1) (l)) 47 :: Af (.slice A46 ((((TKf c us n k).2.1 ++ [(us.getD k 0, L6 c (TKf c us n k).1)])).length) c46) 119 2 ((((TKf c us n k).2.1 ++ [(us.getD k 0, L6 c (TKf c us n k).1)])).length) (Ae Aq (((TKf c us n k).2.1 ++ [(us.getD k 0, L6 c (TKf c us n k).1)]))) :: Af (.slice x_.2.1 (((AGf c us (us.getD k 0) (Du c (TKf c us n k).1, (TKf c us n k).2.2) x_.1).2).length) x_.2.2) 121 3 (((AGf c us (us.getD k 0) (Du c (TKf c us n k).1, (TKf c us n k).2.2) x_.1).2).length) (Ae agC ((AGf c us (us.getD k 0) (Du c (TKf c us n k).1, (TKf c us n k).2.2) x_.1).2)) :: Af (.slice none ((([] : List Rd)).length) 0) 43 5 ((([] : List Rd)).length) (Ae rdC (([] : List Rd))) :: Af (.slice none ((([] : List Li)).length) 0) 79 3 ((([] : List Li)).length) (Ae liC (([] : List Li))) :: Af (.slice A24 (c.p.N.toNat + nd) c24) 3 1 (c.p.N.toNat + nd) (ivs (us)) :: x.res c.p wb L) G) (fun x_ => us.length - x_.1) ((0, A2, c2)) O ⟨O, O, O, O, O, O, O, O, O, O, O, O, O, trivial⟩ ?_ ?_ ?_
      · exact ⟨O, trivial⟩
      · refine ⟨Nat.zero_le _, ?_⟩; dsimp only; rw [Jn, Hj]; exact I.dr 1
      · clear I; rintro ⟨m, A2, c2⟩ j w8 ⟨hm, I⟩; dsimp only at hm I; refine Wh O<|I.v O O O (fun b51 hb51 => Od O<|Wq O<|?_); cases b51
        · replace hb51 := dF hb51; refine Wu O O<|W.exit O<|Wr O<|I.j O O O (by omega)<|I.u O O<|Od O<|?_; obtain rfl : m = us.length := by omega
          have hst2 := I; have e1 : (TKf c us n (k + 1)) = ((AGf c us (us.getD k 0) (Du c (TKf c us n k).1, (TKf c us n k).2.2) us.length).1, ((TKf c us n k).2.1 ++ [(us.getD k 0, L6 c (TKf c us n k).1)]), (AGf c us (us.getD k 0) (Du c (TKf c us n k).1, (TKf c us n k).2.2) us.length).2) := by rw [W8 c us n k hk1, show us[k] = us.getD k 0 by simp [hk1]]; rfl
          refine ⟨(k + 1, A46, c46, A2, c2), ⟨O, trivial⟩, ⟨O, O, O, O, O, O, O, O, O, trivial⟩, ⟨by dsimp only; omega, ?_⟩, by dsimp only; omega⟩; dsimp only; rw [e1]; exact hst2
        · replace hb51 := dT hb51; refine Wt O O<|Wk O<|Wq O<|Wb O<|Wq O<|?_; have hm1 : m < us.length := by omega
          obtain ⟨ha1, ha2⟩ := Bf9 c us (us.getD k 0) (Du c (TKf c us n k).1, (TKf c us n k).2.2) m (by omega); dsimp only at ha1 ha2; have htn : Du c (TKf c us n k).1 ≤ (TKf c us n k).1 + 1 := (P8 c _ _ _).2; refine Wr rfl<|I.y rfl (Y.indexAddr underlying24 sizeOf3 rfl rfl ((Rds.sl (Rds.rowL 7 (by rfl)) I).ne (by simp [ivs]; omega)) (by omega))<|?_; refine I.y O (Y.cast (Y.loadSl isAgg3 O (Rds.rowL 7 O) (Ef (l := us) (k := m) (by omega))) O)<|I.a O O<|Od O<|?_; have hz := Jq c (AGf c us (us.getD k 0) (Du c (TKf c us n k).1, (TKf c us n k).2.2) m).1 (lo := -c.p.Rho) (hi := c.p.Jitter + c.p.Rho) (by omega); refine W.drawn rfl (by kernel_rfl) (Ctx _ _ ([Aa p9 (Ms (((TKf c us n k).2.1 ++ [(us.getD k 0, L6 c (TKf c us n k).1)]).length) (0) ((AGf c us (us.getD k 0) (Du c (TKf c us n k).1, (TKf c us n k).2.2) m).2.length) (0) A46 c46 none 0 A2 c2 none 0) 40, Aa p8 (E4 c.p) 23]) (G)) [25] (T0 [0,1,2,3,4,5,6,7,8,9,10,11,12,13,14,15,16,17,18] (.op 19 1 (T0 [20,21] (T1 [22,23] (.op 24 0 (.op 25 1 .nil)))))) rfl (by kernel_rfl) (I.drew.sub (by repeat first|exact Q2|refine .cons _ ?_)).ctx ?_; replace I := I.drew; generalize World.drew _ = wd at I ⊢; refine Dq rfl (I.sub (by repeat first|exact Q2|refine .cons _ ?_)).ctx (Y.fieldAddr Ab6 O) ?_; refine Dq rfl (I.sub (by repeat first|exact Q2|refine .cons _ ?_)).ctx (Y.load 0 isAgg38 O O O) ?_; refine Dq rfl (I.sub (by repeat first|exact Q2|refine .cons _ ?_)).ctx (Y.moveI O) ?_; refine Dq rfl (I.sub (by repeat first|exact Q2|refine .cons _ ?_)).ctx (Y.moveI O) ?_; refine Dq rfl (I.sub (by repeat first|exact Q2|refine .cons _ ?_)).ctx (Hr O) ?_; refine Dq rfl (I.sub (by repeat first|exact Q2|refine .cons _ ?_)).ctx (Y.fieldAddr I5 O) ?_; refine Dq rfl (I.sub (by repeat first|exact Q2|refine .cons _ ?_)).ctx (Y.load 1 isAgg3 O O O) ?_; refine Dq rfl (I.sub (by repeat first|exact Q2|refine .cons _ ?_)).ctx (Y.fieldAddr N1 O) ?_; refine Dq rfl (I.sub (by repeat first|exact Q2|refine .cons _ ?_)).ctx (Y.load 1 isAgg3 O O O) ?_; refine Dq rfl (I.sub (by repeat first|exact Q2|refine .cons _ ?_)).ctx (Y.subI O O (by omega)) ?_; refine Dq rfl (I.sub (by repeat first|exact Q2|refine .cons _ ?_)).ctx (Y.moveP O) ?_; refine Dq rfl (I.sub (by repeat first|exact Q2|refine .cons _ ?_)).ctx (Y.fieldAddr F4 O) ?_; refine Dq rfl (I.sub (by repeat first|exact Q2|refine .cons _ ?_)).ctx (Y.load 1 isAgg3 O O O) ?_; refine Dq rfl (I.sub (by repeat first|exact Q2|refine .cons _ ?_)).ctx (Y.negI O (by omega)) ?_; refine Dq rfl (I.sub (by repeat first|exact Q2|refine .cons _ ?_)).ctx (Y.fieldAddr Vo O) ?_; refine Dq rfl (I.sub (by repeat first|exact Q2|refine .cons _ ?_)).ctx (Y.load 1 isAgg3 O O O) ?_; refine Dq rfl (I.sub (by repeat first|exact Q2|refine .cons _ ?_)).ctx (Y.fieldAddr F4 O) ?_; refine Dq rfl (I.sub (by repeat first|exact Q2|refine .cons _ ?_)).ctx (Y.load 1 isAgg3 O O O) ?_; refine Dq rfl (I.sub (by repeat first|exact Q2|refine .cons _ ?_)).ctx (Y.addI O O (by omega)) ?_; refine Dw O (X.call Bj6 O ?_); refine Ab (Ol rb c wb ((AGf c us (us.getD k 0) (Du c (TKf c us n k).1, (TKf c us n k).2.2) m).1) _ (-c.p.Rho) (c.p.Jitter + c.p.Rho) (by omega) (by omega) hnl _ _ _ _ _ I.up_2 hin) O ?_; clear I; rintro e w73 ⟨rfl, I⟩; replace I := I.dn2; refine ⟨_, rfl, ⟨(I.sub (by repeat first|exact Q2|refine .cons _ ?_)).ctx, ?_⟩⟩; refine Dq rfl (I.sub (by repeat first|exact Q2|refine .cons _ ?_)).ctx (Y.addI O O (by omega)) ?_; refine Dq rfl (I.sub (by repeat first|exact Q2|refine .cons _ ?_)).ctx (Am5 O) ?_; refine Dw rfl (X.lit1 I underlying38 sizeOf121 zeroValue121 rfl rfl rfl fun p76 w76 I => ⟨(I.sub (by repeat first|exact Q2|refine .cons _ ?_)).ctx, ?_⟩); refine Dw rfl (X.app I 5 0 underlying38 Bc4 rfl rfl rfl rfl rfl rfl rfl rfl (by (try dsimp only); unfold maxLen; omega) (by (try dsimp only); omega) fun A77 c77 w77 I => ⟨(I.sub (by repeat first|exact Q2|refine .cons _ ?_)).ctx, ?_⟩); refine Dq rfl (I.sub (by repeat first|exact Q2|refine .cons _ ?_)).ctx (Y.fieldAddr Ab6 O) ?_; refine Drw.z O O O O (X.storeV I 1 (.slice _ _ _) sizeOf38 O O O O (lZ O) O O fun _ I => Dd<|Wr O<|I.j O O O (by omega)<|I.u O O<|Od O<|?_); have hst2 := (I.dr 1); have e1 : (AGf c us (us.getD k 0) (Du c (TKf c us n k).1, (TKf c us n k).2.2) (m + 1)) = (Auq c (AGf c us (us.getD k 0) (Du c (TKf c us n k).1, (TKf c us n k).2.2) m).1, (AGf c us (us.getD k 0) (Du c (TKf c us n k).1, (TKf c us n k).2.2) m).2 ++ [⟨us.getD m 0, us.getD k 0, Aux c (AGf c us (us.getD k 0) (Du c (TKf c us n k).1, (TKf c us n k).2.2) m).1⟩]) := by rw [W4 c us _ _ m hm1, show us[m] = us.getD m 0 by simp [hm1]]; rfl
          refine ⟨(m + 1, A77, c77), ⟨O, trivial⟩, ⟨O, O, O, O, O, O, O, O, O, O, O, O, O, trivial⟩, ⟨by dsimp only; omega, ?_⟩, by dsimp only; omega⟩; dsimp only; rw [e1]; dsimp only; rw [Jn (AGf c us (us.getD k 0) (Du c (TKf c us n k).1, (TKf c us n k).2.2) m).2, Hj agC]; exact hst2
end
section
open Tryz Go.RowKit YtaanjifekgfemaaGreat.K YtaanjifekgfemaaGreat.W YtaanjifekgfemaaGreat.LN
theorem R5 {α : Type} {l : List α} (hn : l.Nodup) {i j : Nat} {x : α} (hi : l[i]? = some x) (hj : l[j]? = some x) : i = j := by
 unfold List.Nodup at hn; rw [List.pairwise_iff_getElem] at hn; obtain ⟨h1, rfl⟩ := List.getElem?_eq_some_iff.1 hi; obtain ⟨h3, h4⟩ := List.getElem?_eq_some_iff.1 hj; rcases Nat.lt_trichotomy i j with h | h | h
 ·exact absurd h4.symm (hn i j h1 h3 h)
 ·exact h
 ·exact absurd h4 (hn j i h3 h1 h)
def Ke (who w : Int) (fr : ByteArray) (s : Stp) (q : Qs) (l : Int × Int) : Qs := if l.1 ≠ who ∨ l ∈ s.lost ∨ l.2 ≠ w then q else D4 q who (Cm who fr l s.lies)
def L3 (who w : Int) (fr : ByteArray) (s : Stp) (links : List (Int × Int)) (q : Qs) : Qs := links.foldl (Ke who w fr s) q
theorem Ar6 {us : List Un} {ws : List Int} (h : us.map (fun u => u.who) = ws) (hn : ws.Nodup) {ms : List UM} {i : Nat} {m : UM} {wi : Int} (hm : ms[i]? = some m) (hw : ws[i]? = some wi) (who : Int) (t : ByteArray) {to : Int} (hto : to ∈ ws) :
  (Je us ms who t to)[i]? = some (if to = wi then m.setQs (D4 m.u.qs who t) else m) := by
 obtain ⟨j, hj⟩ := List.getElem?_of_mem hto; have hi := (N8 h hn hj).1; unfold Je R0 Ai6; rw [hi, Int.toNat_natCast]
 by_cases e : to = wi
 ·rw [if_pos e]; subst e; have hij : i = j := R5 hn hw hj; subst hij; rw [hm]; dsimp only; rw [List.getElem?_set_self (List.getElem?_eq_some_iff.1 hm).1]
 ·rw [if_neg e]; have hij : j ≠ i := fun hji => by subst hji; rw [hw] at hj; injection hj with hj; exact e hj.symm
  split
  ·rw [List.getElem?_set_ne hij, hm]
  ·exact hm
theorem A58 {us : List Un} {ws : List Int} (h : us.map (fun u => u.who) = ws) (hn : ws.Nodup) {ms : List UM} {i : Nat} {m : UM} {wi : Int} (hm : ms[i]? = some m) (hw : ws[i]? = some wi) (who : Int) (fr : ByteArray) (s : Stp) (links : List (Int × Int)) (hl : ∀ l ∈ links, l.2 ∈ ws) :
    (Fi us who fr s ms links)[i]? = some (m.setQs (L3 who wi fr s links m.u.qs)) := by
  unfold Fi L3
  induction links generalizing ms m with
  | nil => exact hm
  | cons l ls ih =>
    have hl1 := hl l (by simp); have hl2 : ∀ l ∈ ls, l.2 ∈ ws := fun x hx => hl x (by simp [hx]); rw [List.foldl_cons, List.foldl_cons]
    by_cases hc : l.1 ≠ who ∨ l ∈ s.lost
    · have e1 : Js us who fr s ms l = ms := if_pos hc; have e2 : Ke who wi fr s m.u.qs l = m.u.qs := if_pos (by rcases hc with hc | hc <;> simp [hc]); rw [e1, e2]; exact ih hm hl2
    · have e1 : Js us who fr s ms l = Je us ms who (Cm who fr l s.lies) l.2 := if_neg hc; rw [e1]; have e3 := Ar6 h hn hm hw who (Cm who fr l s.lies) hl1; rw [ih e3 hl2]
      by_cases e : l.2 = wi
      · have e2 : Ke who wi fr s m.u.qs l = D4 m.u.qs who (Cm who fr l s.lies) := if_neg (by rintro (hx | hx | hx); exact hc (.inl hx); exact hc (.inr hx); exact hx e); rw [if_pos e, e2]; rfl
      · have e2 : Ke who wi fr s m.u.qs l = m.u.qs := if_pos (.inr (.inr e)); rw [if_neg e, e2]
def Arq (us : List Un) (w : Int) (s : Stp) (links : List (Int × Int)) (sd : List Hd) (q : Qs) (j : Nat) : Qs := match us[j]?, sd[j]? with
  | some u, some h => if u.who ∈ s.off then q else L3 u.who w (Ei h.m) s links q
  | _, _ => q
def Pu (us : List Un) (w : Int) (s : Stp) (links : List (Int × Int)) (sd : List Hd) (q : Qs) (k : Nat) : Qs := (List.range k).foldl (Arq us w s links sd) q
theorem Ll (us : List Un) (w : Int) (s : Stp) (links : List (Int × Int)) (sd : List Hd) (q : Qs) (k : Nat) : Pu us w s links sd q (k + 1) = Arq us w s links sd (Pu us w s links sd q k) k := by unfold Pu; rw [List.range_succ, List.foldl_append]; rfl
theorem Ae8 {us : List Un} {ws : List Int} (h : us.map (fun u => u.who) = ws) (hn : ws.Nodup) {ms : List UM} {i : Nat} {m : UM} {wi : Int} (hm : ms[i]? = some m) (hw : ws[i]? = some wi) (s : Stp) (links : List (Int × Int)) (hl : ∀ l ∈ links, l.2 ∈ ws) (sd : List Hd) (k : Nat) :
    (Cp us s links sd ms k)[i]? = some (m.setQs (Pu us wi s links sd m.u.qs k)) := by
  induction k with
  | zero => exact hm
  | succ k ih =>
    rw [Fw, Ll]; unfold Hh Arq
    cases us[k]? with
    | none => exact ih
    | some u =>
      cases sd[k]? with
      | none => exact ih
      | some hd =>
        dsimp only
        by_cases ho : u.who ∈ s.off
        · rw [if_pos ho, if_pos ho]; exact ih
        · rw [if_neg ho, if_neg ho]; exact A58 h hn ih hw u.who (Ei hd.m) s links hl
theorem Ar8 (q : Qs) (who : Int) (t : ByteArray) : (D4 q who t).length = q.length := by unfold D4; split <;> simp
theorem Ar9 {q : Qs} (hq : q.length = 48) {who : Int} (hw : 0 ≤ who ∧ who < 48) (t : ByteArray) (f : Nat) (hf : f < 48) :
  (D4 q who t).getD f [] = if (f : Int) = who ∧ t.size ≤ 4096 then Ae4 (q.getD f []) t else q.getD f [] := by
 unfold D4
 by_cases hs : t.size ≤ 4096
 ·rw [if_pos ⟨hw, hs⟩]
  by_cases hfw : (f : Int) = who
  ·rw [if_pos ⟨hfw, hs⟩]; subst hfw
   unfold qat
   rw [Int.toNat_natCast, List.getD_eq_getElem?_getD, List.getElem?_set_self (by omega)]; rfl
  ·rw [if_neg (fun h => hfw h.1), List.getD_eq_getElem?_getD, List.getD_eq_getElem?_getD, List.getElem?_set_ne (by omega)]
 ·rw [if_neg (fun h => hs h.2), if_neg (fun h => hs h.2)]
theorem As1 (who w : Int) (fr : ByteArray) (s : Stp) (q : Qs) (l : Int × Int) : (Ke who w fr s q l).length = q.length := by unfold Ke; split; rfl; exact Ar8 _ _ _
theorem Arx (who w : Int) (fr : ByteArray) (s : Stp) (links : List (Int × Int)) (q : Qs) : (L3 who w fr s links q).length = q.length := by
 unfold L3
 induction links generalizing q with
 | nil => rfl
 | cons l ls ih => rw [List.foldl_cons, ih, As1]
theorem Y4 {who w : Int} {fr : ByteArray} {s : Stp} {links : List (Int × Int)} (h : (who, w) ∉ links) (q : Qs) : L3 who w fr s links q = q := by
  unfold L3
  induction links generalizing q with
  | nil => rfl
  | cons l ls ih =>
    have e : Ke who w fr s q l = q := by
      unfold Ke; refine if_pos<|Classical.byContradiction fun hc => h<|?_; have h1 : l.1 = who := Classical.byContradiction fun hx => hc (.inl hx); have h2 : l.2 = w := Classical.byContradiction fun hx => hc (.inr (.inr hx)); have : l = (who, w) := Prod.ext h1 h2; rw [← this]; exact .head _
    rw [List.foldl_cons, e]; exact ih (fun hx => h (.tail _ hx)) q
theorem Arz {who w : Int} {fr : ByteArray} {s : Stp} (hs : s.lost = []) {links : List (Int × Int)} (hn : links.Nodup) (h : (who, w) ∈ links) (q : Qs) : L3 who w fr s links q = D4 q who (Cm who fr (who, w) s.lies) := by
  unfold L3
  induction links generalizing q with
  | nil => cases h
  | cons l ls ih =>
    have hn2 := List.nodup_cons.1 hn; rw [List.foldl_cons]
    by_cases e : l = (who, w)
    · subst e
      have e1 : Ke who w fr s q (who, w) = D4 q who (Cm who fr (who, w) s.lies) := by
        unfold Ke; rw [if_neg]; rintro (h1 | h1 | h1)
        · exact h1 rfl
        · rw [hs] at h1; cases h1
        · exact h1 rfl
      rw [e1]; exact Y4 hn2.1 _
    · have hm : (who, w) ∈ ls := by
        rcases List.mem_cons.1 h with h | h
        · exact absurd h.symm e
        · exact h
      have e1 : Ke who w fr s q l = q := by
        unfold Ke; refine if_pos<|Classical.byContradiction fun hc => e<|?_; have h1 : l.1 = who := Classical.byContradiction fun hx => hc (.inl hx); have h2 : l.2 = w := Classical.byContradiction fun hx => hc (.inr (.inr hx)); exact Prod.ext h1 h2
      rw [e1]; exact ih hn2.2 hm q
def Nj (who w : Int) (fr : ByteArray) (s : Stp) (links : List (Int × Int)) : List It := if (who, w) ∈ links ∧ (Cm who fr (who, w) s.lies).size ≤ 4096 then [(Cm who fr (who, w) s.lies, 0)] else []
theorem As0 {who w : Int} (hw : 0 ≤ who ∧ who < 48) {fr : ByteArray} {s : Stp} (hs : s.lost = []) {links : List (Int × Int)} (hn : links.Nodup) {q : Qs} (hq : q.length = 48) (f : Nat) (hf : f < 48) :
  (L3 who w fr s links q).getD f [] = if (f : Int) = who ∧ (who, w) ∈ links ∧ (Cm who fr (who, w) s.lies).size ≤ 4096 then Ae4 (q.getD f []) (Cm who fr (who, w) s.lies) else q.getD f [] := by
 by_cases h : (who, w) ∈ links
 ·rw [Arz hs hn h, Ar9 hq hw _ f hf]
  by_cases h2 : (f : Int) = who ∧ (Cm who fr (who, w) s.lies).size ≤ 4096
  ·rw [if_pos h2, if_pos ⟨h2.1, h, h2.2⟩]
  ·rw [if_neg h2, if_neg (fun hx => h2 ⟨hx.1, hx.2.2⟩)]
 ·rw [Y4 h, if_neg (fun hx => h hx.2.1)]
theorem Y3 (us : List Un) (w : Int) (s : Stp) (links : List (Int × Int)) (sd : List Hd) (q : Qs) (k : Nat) : (Pu us w s links sd q k).length = q.length := by
  induction k with
  | zero => rfl
  | succ k ih =>
    rw [Ll]; unfold Arq; split
    · split
      · exact ih
      · rw [Arx]; exact ih
    · exact ih
theorem Ak4 : qs0.length = 48 := by simp [qs0]
theorem Wn (f : Nat) : qs0.getD f [] = [] := by
 unfold qs0; rw [List.getD_eq_getElem?_getD]
 cases h : (List.replicate 48 ([] : List It))[f]? with
 | none => rfl
 | some x => rw [List.eq_of_mem_replicate (List.mem_of_getElem? h)]; rfl
theorem Ud {us : List Un} {ws : List Int} (h : us.map (fun u => u.who) = ws) (hw : ∀ x ∈ ws, 0 ≤ x ∧ x < 48) {w : Int} {s : Stp} (hs : s.lost = []) (ho : s.off = []) {links : List (Int × Int)} (hnl : links.Nodup) {sd : List Hd} {k : Nat} {u : Un} {hd : Hd} (hu : us[k]? = some u) (hh : sd[k]? = some hd) (f : Nat) (hf : f < 48) {q : Qs} (hq : q.length = 48) :
  (Arq us w s links sd q k).getD f [] = if (f : Int) = u.who ∧ (u.who, w) ∈ links ∧ (Cm u.who (Ei hd.m) (u.who, w) s.lies).size ≤ 4096 then Ae4 (q.getD f []) (Cm u.who (Ei hd.m) (u.who, w) s.lies) else q.getD f [] := by
 have hwu : 0 ≤ u.who ∧ u.who < 48 := hw _ (by rw [← h]; exact List.mem_map.2 ⟨u, List.mem_of_getElem? hu, rfl⟩); unfold Arq; rw [hu, hh]; dsimp only; rw [if_neg (by rw [ho]; exact fun hx => by cases hx)]; exact As0 hwu hs hnl hq f hf
theorem Bcq {us : List Un} {ws : List Int} (h : us.map (fun u => u.who) = ws) (hn : ws.Nodup) (hw : ∀ x ∈ ws, 0 ≤ x ∧ x < 48) {w : Int} {s : Stp} (hs : s.lost = []) (ho : s.off = []) {links : List (Int × Int)} (hnl : links.Nodup) {sd : List Hd} (hsl : sd.length = us.length)
    {j : Nat} {hd : Hd} (f : Nat) (hf : f < 48) (hj : ws[j]? = some (f : Int)) (hh : sd[j]? = some hd) : (Pu us w s links sd qs0 us.length).getD f [] = Nj f w (Ei hd.m) s links := by
  have main : ∀ k, k ≤ us.length → (Pu us w s links sd qs0 k).getD f [] = if j < k then Nj f w (Ei hd.m) s links else [] := by
    intro k
    induction k with
    | zero => intro _; rw [if_neg (by omega)]; exact Wn f
    | succ k ih =>
      intro hk; obtain ⟨u, hu⟩ : ∃ u, us[k]? = some u := ⟨_, List.getElem?_eq_getElem (by omega)⟩; obtain ⟨h2, hh2⟩ : ∃ u, sd[k]? = some u := ⟨_, List.getElem?_eq_getElem (by omega)⟩; have hku : ws[k]? = some u.who := by rw [← h, List.getElem?_map, hu]; rfl
      rw [Ll, Ud h hw hs ho hnl hu hh2 f hf ((Y3 ..).trans Ak4), ih (by omega)]
      by_cases e : k = j
      · subst e; rw [hh] at hh2; injection hh2 with hh2; subst hh2; have e2 : u.who = (f : Int) := by rw [hj] at hku; injection hku with hku; exact hku.symm
        rw [e2, if_neg (show ¬ k < k by omega), if_pos (show k < k + 1 by omega)]; unfold Nj
        by_cases hc : ((f : Int), w) ∈ links ∧ (Cm (f : Int) (Ei hd.m) ((f : Int), w) s.lies).size ≤ 4096
        · rw [if_pos ⟨rfl, hc⟩, if_pos hc]; rfl
        · rw [if_neg (fun hx => hc hx.2), if_neg hc]
      · have e2 : (f : Int) ≠ u.who := fun e2 => by rw [← e2] at hku; exact e (R5 hn hku hj)
        rw [if_neg (fun hx => e2 hx.1)]
        by_cases hl : j < k
        · rw [if_pos hl, if_pos (by omega)]
        · rw [if_neg hl, if_neg (by omega)]
  have hjl : j < us.length := by
    have := (List.getElem?_eq_some_iff.1 hj).1; rw [← h, List.length_map] at this; exact this
  rw [main _ (Nat.le_refl _), if_pos hjl]
theorem Bcx {us : List Un} {ws : List Int} (h : us.map (fun u => u.who) = ws) (hw : ∀ x ∈ ws, 0 ≤ x ∧ x < 48) {w : Int} {s : Stp} (hs : s.lost = []) (ho : s.off = []) {links : List (Int × Int)} (hnl : links.Nodup) {sd : List Hd} (hsl : sd.length = us.length)
    (f : Nat) (hf : f < 48) (hj : (f : Int) ∉ ws) : (Pu us w s links sd qs0 us.length).getD f [] = [] := by
  have main : ∀ k, k ≤ us.length → (Pu us w s links sd qs0 k).getD f [] = [] := by
    intro k
    induction k with
    | zero => intro _; exact Wn f
    | succ k ih =>
      intro hk; obtain ⟨u, hu⟩ : ∃ u, us[k]? = some u := ⟨_, List.getElem?_eq_getElem (by omega)⟩; obtain ⟨h2, hh2⟩ : ∃ u, sd[k]? = some u := ⟨_, List.getElem?_eq_getElem (by omega)⟩; have hku : u.who ∈ ws := by rw [← h]; exact List.mem_map.2 ⟨u, List.mem_of_getElem? hu, rfl⟩
      rw [Ll, Ud h hw hs ho hnl hu hh2 f hf ((Y3 ..).trans Ak4), ih (by omega), if_neg (fun hx => hj (by rw [hx.1]; exact hku))]
  exact main _ (Nat.le_refl _)
end
end Go.Proofs.YtaanjifekgfemaaGreat.Cl
namespace Go.Proofs.YtaanjifekgfemaaGreat.W
section
open Tryz Go.RowKit YtaanjifekgfemaaGreat.K YtaanjifekgfemaaGreat.CM
theorem A97 (n : Int) (j : Nat) : (by8 n j).toNat = (n % 18446744073709551616).toNat / 2 ^ (8 * (7 - j)) % 256 := by
 unfold by8; rw [UInt8.toNat_ofNat', show (2 : Nat) ^ 8 = 256 from rfl]
theorem Bj0 (n : Int) : be8 n = [by8 n 0, by8 n 1, by8 n 2, by8 n 3, by8 n 4, by8 n 5, by8 n 6, by8 n 7] := rfl
theorem Be3 (n : Int) : rdn (be8 n) = (n % 18446744073709551616).toNat := by
 rw [Bj0]; simp only [rdn, List.foldl_cons, List.foldl_nil, A97]; have h : (n % 18446744073709551616).toNat < 18446744073709551616 := by omega
 generalize (n % 18446744073709551616).toNat = u at h; simp only [Nat.reduceSub, Nat.reduceMul, Nat.reducePow]; omega
theorem Be2 (n : Int) (h : Bz n) : rd8 (be8 n) = n := by
 unfold rd8; rw [Be3, IntKind.wrap_i64]; unfold Bz at h; omega
theorem Ae2 (p : List UInt8) : opn (B9 p) = some p := by
 unfold opn; have h1 : (B9 p).length = p.length + 4 := Kb p; have h2 : (B9 p).take ((B9 p).length - 4) = p := by rw [h1]; unfold B9; simp
 have h3 : (B9 p).drop ((B9 p).length - 4) = le4 (crc p) := by rw [h1]; unfold B9; simp
 rw [if_neg (by omega), h2, h3, if_pos rfl]
theorem Uh (x : Int) (l : List Int) : E6 (x :: l) = be8 x ++ E6 l := rfl
theorem R6 : ∀ (xs : List Int) (i : Nat), i < xs.length → ((E6 xs).drop (8 * i)).take 8 = be8 (xs.getD i 0)
  | [], _, h => by simp at h
  | x :: l, 0, _ => by
    rw [Uh, Nat.mul_zero, List.drop_zero, List.take_append_of_le_length (by simp), List.take_of_length_le (by simp)]; rfl
  | x :: l, i + 1, h => by
    rw [Uh, show 8 * (i + 1) = (be8 x).length + 8 * i by rw [Qr]; omega, List.drop_append, List.drop_of_length_le (by omega), List.nil_append, Nat.add_sub_cancel_left]; exact R6 l i (by simpa using h)
theorem A18 {hd : List UInt8} {xs : List Int} {i : Nat} (h4 : hd.length = 4) (hi : i < xs.length) (hw : ∀ x ∈ xs, Bz x) : Ew (hd ++ E6 xs) i = xs.getD i 0 := by
 unfold Ew; rw [List.drop_append, List.drop_of_length_le (by omega), List.nil_append, h4, Nat.add_sub_cancel_left, R6 xs i hi]; exact Be2 _ (hw _ (Re hi))
theorem W0 {n : Int} (h : 0 ≤ n ∧ n < 256) : ((ub n).toNat : Int) = n := by
 unfold ub; rw [UInt8.toNat_ofNat', show (2 : Nat) ^ 8 = 256 from rfl]; omega
theorem Al9 : ∀ (l : List (Int × Int)) (i : Nat), i < l.length → (tin l).getD (2 * i) 0 = (l.getD i (0, 0)).1 ∧ (tin l).getD (2 * i + 1) 0 = (l.getD i (0, 0)).2
  | [], _, h => by simp at h
  | x :: l, 0, _ => ⟨rfl, rfl⟩
  | x :: l, i + 1, h => by
    have := Al9 l i (by simpa using h); rw [show 2 * (i + 1) = 2 * i + 1 + 1 by omega]; exact this
def M.xs (m : M) : List Int := [m.slo, m.shi, m.held, m.hops, m.elo, m.ehi, m.pulse, m.time, m.num] ++ tin m.tab
def M.fr (m : M) : List UInt8 := W.fr m.kind m.from_ m.slo m.shi m.held m.hops m.good m.ref m.elo m.ehi m.pulse m.time m.num m.tab
theorem M.fr_eq (m : M) : m.fr = hd4 m.kind m.from_ m.good m.ref m.tab.length ++ E6 m.xs := by
 unfold M.fr W.fr M.xs; rw [Pe, List.append_assoc]
def M.In (m : M) : Prop := Au6 m.kind m.from_ m.slo m.shi m.held m.hops m.elo m.ehi m.pulse m.time m.num m.tab
theorem M.xs_in {m : M} (h : m.In) : ∀ x ∈ m.xs, Bz x := by
 obtain ⟨_, h2, h3⟩ := h; intro x hx; unfold M.xs at hx; rcases List.mem_append.1 hx with hx | hx
 ·exact Bi1 h3 x hx
 ·simp only [tin, List.mem_flatMap] at hx; obtain ⟨y, hy, hx⟩ := hx; have := h2 y hy; simp only [List.mem_cons, List.not_mem_nil, or_false] at hx; rcases hx with rfl | rfl
  ·exact this.1
  ·exact this.2
theorem M.nth {m : M} (h : m.In) {i : Nat} (hi : i < 9 + 2 * m.tab.length) : Ew m.fr i = m.xs.getD i 0 := by
 rw [M.fr_eq]; exact A18 rfl (by unfold M.xs; rw [List.length_append, Mp]; exact hi) (M.xs_in h)
theorem Bm7 (m : M) (hok : m.Ok) (h : m.In) : rdM m.fr = m := by
 obtain ⟨⟨hk, hf, _⟩, ht, _⟩ := hok; have g0 : gb m.fr 0 = ub m.kind := rfl; have g1 : gb m.fr 1 = ub m.from_ := rfl; have g2 : gb m.fr 2 = ub (fl m.good m.ref) := rfl; have g3 : gb m.fr 3 = ub (m.tab.length : Int) := rfl; have e3 : (ub (m.tab.length : Int)).toNat = m.tab.length := by have := W0 (n := m.tab.length) (by omega); omega
 have et : Iw m.fr m.tab.length = m.tab := by
  apply List.ext_getElem
  ·rw [Nk]
  ·intro i h1 h2; have hg := Al9 m.tab i h2; have hn1 := M.nth h (i := 9 + 2 * i) (by omega); have hn2 := M.nth h (i := 10 + 2 * i) (by omega); have c1 : m.xs.getD (9 + 2 * i) 0 = (tin m.tab).getD (2 * i) 0 := by rw [show 9 + 2 * i = 2 * i + 1 + 1 + 1 + 1 + 1 + 1 + 1 + 1 + 1 by omega]; rfl
   have c2 : m.xs.getD (10 + 2 * i) 0 = (tin m.tab).getD (2 * i + 1) 0 := by rw [show 10 + 2 * i = 2 * i + 1 + 1 + 1 + 1 + 1 + 1 + 1 + 1 + 1 + 1 by omega]; rfl
   have hgd : m.tab.getD i (0, 0) = m.tab[i] := by simp [h2]
   simp only [Iw, List.getElem_map, List.getElem_range]; rw [hn1, hn2, c1, c2, hg.1, hg.2, hgd]
 have n0 := M.nth h (i := 0) (by omega); have n1 := M.nth h (i := 1) (by omega); have n2 := M.nth h (i := 2) (by omega); have n3 := M.nth h (i := 3) (by omega); have n4 := M.nth h (i := 4) (by omega); have n5 := M.nth h (i := 5) (by omega); have n6 := M.nth h (i := 6) (by omega); have n7 := M.nth h (i := 7) (by omega); have n8 := M.nth h (i := 8) (by omega); have b0 := W0 (n := m.kind) (by omega); have b1 := W0 (n := m.from_) (by omega); have f1 : decide ((ub (fl m.good m.ref)).toNat % 2 = 1) = m.good := by cases m.good <;> cases m.ref <;> rfl
 have f2 : decide ((ub (fl m.good m.ref)).toNat / 2 % 2 = 1) = m.ref := by cases m.good <;> cases m.ref <;> rfl
 unfold rdM; rw [g0, g1, g2, g3, e3, et, n0, n1, n2, n3, n4, n5, n6, n7, n8, b0, b1, f1, f2]; rfl
theorem Bbq (m : M) (hok : m.Ok) : F2 m.fr := by
 have ht : m.tab.length ≤ 32 := hok.2.1; have e3 : (ub (m.tab.length : Int)).toNat = m.tab.length := by have := W0 (n := m.tab.length) (by omega); omega
 have hl : m.fr.length = 76 + 16 * m.tab.length := N4 ..; have g2 : gb m.fr 2 = ub (fl m.good m.ref) := rfl; have g3 : gb m.fr 3 = ub (m.tab.length : Int) := rfl; refine ⟨by omega, by rw [g3, e3, hl], ?_⟩; rw [g2]; cases m.good <;> cases m.ref <;> decide
theorem Ba7 (m : M) (hok : m.Ok) (h : m.In) : Cu (B9 m.fr) = (m, 0) := by
 have ht : m.tab.length ≤ 32 := hok.2.1; have hl : m.fr.length = 76 + 16 * m.tab.length := N4 ..; have e := Bm7 m hok h; rw [Ah7 (p := m.fr) (by rw [Kb]; omega) (Ae2 _) (Bbq m hok) (by rw [e]; exact hok), e]
end
end Go.Proofs.YtaanjifekgfemaaGreat.W
namespace Go.Proofs.YtaanjifekgfemaaGreat.Cl
section
open Tryz Go.RowKit YtaanjifekgfemaaGreat.K YtaanjifekgfemaaGreat.W YtaanjifekgfemaaGreat.LN YtaanjifekgfemaaGreat.CM
theorem Ty {m : M} (h : m.Ok) : Ei m = str (B9 m.fr) := by
 unfold Ei An9; rw [if_pos (show Okm m.kind m.from_ m.slo m.shi m.held m.hops m.elo m.ehi m.pulse m.time m.num m.tab from h)]; rfl
theorem Baz {m : M} (h : m.Ok) : Cu (Ei m).data.toList = (m, 0) := by
 rw [Ty h]; exact Ba7 m h (A1x h)
theorem Q5 {m : M} (h : m.Ok) : (Ei m).size ≤ 4096 := by
 rw [Ty h, ← Mq]; show (B9 m.fr).length ≤ 4096; rw [Kb]; have hl : m.fr.length = 76 + 16 * m.tab.length := N4 ..; have ht : m.tab.length ≤ 32 := h.2.1; omega
theorem Si {m : M} (h : m.Ok) {f : Nat} (hf : m.from_ = (f : Int)) (age c : Int) : Eh f age [(Ei m, c)] = [(m, age)] := by
 unfold Eh Xm; simp only [List.filterMap_cons, List.filterMap_nil]; rw [Baz h, if_pos ⟨rfl, hf⟩]
theorem Nl {f : Nat} {age : Int} {q : List It} {y : M × Int} (h : y ∈ Eh f age q) : y.1.from_ = (f : Int) ∧ y.1.Ok ∧ y.2 = age := by
 have h1 := E7 h; obtain ⟨x, hx, h2, h3⟩ := h1.2; refine ⟨h1.1, by rw [h2]; exact Ax1 h3, ?_⟩; unfold Eh at h; obtain ⟨z, hz, hy⟩ := List.mem_filterMap.1 h; unfold Xm at hy; split at hy
 ·injection hy with hy; subst hy; rfl
 ·cases hy
def Hon (s : Stp) (f : Int) : Prop := 16 ≤ f ∨ ∀ x ∈ s.lies, x.from_ ≠ f
theorem Af8 {s : Stp} {f : Int} (h : Hon s f) (fr : ByteArray) (w : Int) : Cm f fr (f, w) s.lies = fr := by
  unfold Cm
  have : ∀ (l : List Li), (16 ≤ f ∨ ∀ x ∈ l, x.from_ ≠ f) → ∀ t, l.foldl (fun t x => if (x.from_ = (f, w).1 ∧ x.to = (f, w).2) ∧ f < 16 then x.text else t) t = t := by
    intro l
    induction l with
    | nil => intro _ t; rfl
    | cons x l ih =>
      intro h t; rw [List.foldl_cons, if_neg]
      · exact ih (h.imp id fun h y hy => h y (.tail _ hy)) t
      · rintro ⟨⟨h1, _⟩, h2⟩; rcases h with h | h
        · omega
        · exact h x (.head _) h1
  exact this s.lies h fr
structure One (p : Par) (s : Stp) (u u' : PU) (msg : M) : Prop where
  who : u'.who = u.who
  inp : ∃ i, InpOf p s u.who u.qs i ∧ Qh p u i u' msg
theorem Qh.qs {p : Par} {u u' : PU} {i : Inp} {msg : M} {q : Qs} (h : Qh p u i u' msg) : Qh p u i { u' with qs := q } msg := h
structure Beats (p : Par) (s : Stp) (ws : List Int) (links : List (Int × Int)) (us us' : List PU) (sd : List M) : Prop where
  len : us'.length = us.length
  one : ∀ (k : Nat) (u : PU), us[k]? = some u → ∃ (u' : PU) (m : M), us'[k]? = some u' ∧ sd[k]? = some m ∧ One p s u u' m ∧ m.Ok ∧ m.from_ = u.who
  lane : ∀ (k : Nat) (u' : PU), us'[k]? = some u' → ∀ f : Nat, f < 48 → ((f : Int) ∉ ws → u'.qs.getD f [] = []) ∧ ∀ (j : Nat) (m : M), ws[j]? = some (f : Int) → sd[j]? = some m → u'.qs.getD f [] = Nj f u'.who (Ei m) s links
theorem Am8 {p : Par} (hp : p.Ok) {u u' : PU} {i : Inp} {msg : M} (h : Qh p u i u' msg) (hf : u.s.Fit p) (hw : 0 ≤ u.who ∧ u.who ≤ 47) : msg.Ok ∧ msg.from_ = u.who := by
 rcases h with ⟨h1, h2, h3, rfl⟩ | ⟨h1, clock, tab, h2, h3, h4, rfl⟩
 ·exact ⟨Rc hp hf hw i, rfl⟩
 ·exact ⟨R3 hp hf hw _ _ _, rfl⟩
theorem StepW.beats {p : Par} (hp : p.Ok) {s : Stp} {G G' : List Res} {x x' : Wd} {nd : Nat} (hnd : nd ≤ 32) (h : StepW p s G G' x x') (hx : x.Ok p nd G) (ho : s.off = []) (hl : s.lost = []) (hnl : x'.links.Nodup) (hlk : B4 (unL x'.ms) x'.links) :
  ∃ sd, Beats p s (Ai p.N.toNat nd) x'.links (puL x.ms) (puL x'.ms) sd := by
 obtain ⟨ms1, sd, hr, he⟩ := h.run; have hus := hx.un; have hnw := Yr hp nd; have hlen := Cw x.ms; have hl2 : ∀ l ∈ x'.links, l.2 ∈ Ai p.N.toNat nd := (J6 ((E9 _).trans (by rw [← E9, h.un, E9]; exact hx.who)) hnw _).1 hlk
 have hw48 : ∀ y ∈ Ai p.N.toNat nd, 0 ≤ y ∧ y < 48 := by
  intro y hy; rw [Ev] at hy; have := hp.N; omega
 have hl1 : ms1.length = x.ms.length := by have := congrArg List.length hr.un; rw [Cw, Cw] at this; exact this
 have hsd : sd.length = x.ms.length := hr.len
 have key : ∀ (k : Nat) (m : UM), x.ms[k]? = some m → ∃ (m1 : UM) (hd : Hd), ms1[k]? = some m1 ∧ sd[k]? = some hd ∧ O0 p s m.u m1.u hd.m ∧ x'.ms[k]? = some (m1.setQs (Pu (unL x.ms) m.u.who s x'.links sd qs0 (unL x.ms).length)) := by
  intro k m hm; have hk := (List.getElem?_eq_some_iff.1 hm).1; obtain ⟨m1, hm1⟩ : ∃ m1, ms1[k]? = some m1 := ⟨_, List.getElem?_eq_getElem (by omega)⟩; obtain ⟨hd, hhd⟩ : ∃ hd, sd[k]? = some hd := ⟨_, List.getElem?_eq_getElem (by omega)⟩; have hb := hr.done k m m1 hd hm hm1 hhd (by omega); have hwk : (Ai p.N.toNat nd)[k]? = some m.u.who := by rw [← hx.who]; unfold E8; rw [List.getElem?_map, hm]; rfl
  have h1 := Ae8 hus hnw hm1 hwk s x'.links hl2 sd (unL x.ms).length; rw [← he] at h1; refine ⟨m1, hd, hm1, hhd, hb, ?_⟩; rw [h1]; have e : m1.u.qs = qs0 := hb.2.1; rw [e]
 refine ⟨sd.map (·.m), ⟨?_, ?_, ?_⟩⟩
 ·unfold puL; rw [List.length_map, List.length_map]; have := congrArg List.length h.un; rw [Cw, Cw] at this; exact this
 ·intro k u hu; unfold puL at hu ⊢; rw [List.getElem?_map] at hu; obtain ⟨m, hm, rfl⟩ := Option.map_eq_some_iff.1 hu; obtain ⟨m1, hd, h1, h2, h3, h4⟩ := key k m hm; obtain ⟨e1, e2, e3⟩ := h3; rcases e3 with ⟨e3, _⟩ | ⟨e3, i, hi, hb⟩
  ·rw [ho] at e3; cases e3
  ·have hmm := List.mem_of_getElem? hm; have hmo := Am8 hp hb (hx.ms m hmm).fit (Alx hx hp hnd m hmm); refine ⟨(m1.setQs (Pu (unL x.ms) m.u.who s x'.links sd qs0 (unL x.ms).length)).u, hd.m, by rw [List.getElem?_map, h4]; rfl, by rw [List.getElem?_map, h2]; rfl, ⟨e1, i, hi, hb⟩, hmo⟩
 ·intro k u' hu' f hf; unfold puL at hu'; rw [List.getElem?_map] at hu'; obtain ⟨m', hm', rfl⟩ := Option.map_eq_some_iff.1 hu'
  have hk : k < x.ms.length := by
   have h1 := (List.getElem?_eq_some_iff.1 hm').1; have := congrArg List.length h.un; rw [Cw, Cw] at this; omega
  obtain ⟨m1, hd, h1, h2, h3, h4⟩ := key k x.ms[k] (List.getElem?_eq_getElem hk); rw [hm'] at h4; injection h4 with h4; subst h4; have hwho : (m1.setQs (Pu (unL x.ms) (x.ms[k]).u.who s x'.links sd qs0 (unL x.ms).length)).u.who = (x.ms[k]).u.who := h3.1; refine ⟨fun hn => ?_, fun j m hj hm => ?_⟩
  ·exact Bcx hus hw48 hl ho hnl (by rw [hsd, hlen]) f hf hn
  ·rw [List.getElem?_map] at hm; obtain ⟨hdj, hh, rfl⟩ := Option.map_eq_some_iff.1 hm; rw [hwho]; exact Bcq hus hnw hw48 hl ho hnl (by rw [hsd, hlen]) f hf hj hh
theorem J2 {p : Par} {s : Stp} {ws : List Int} {links : List (Int × Int)} {us us' : List PU} {sd : List M} (h : Beats p s ws links us us' sd) (hws : us.map (fun u => u.who) = ws) {k : Nat} {u' : PU} (hk : us'[k]? = some u') {f : Nat} (hf : f < 48) (age : Int) :
  ((f : Int) ∉ ws ∨ ((f : Int), u'.who) ∉ links → Eh f age (u'.qs.getD f []) = []) ∧
  (∀ (j : Nat) (m : M), ws[j]? = some (f : Int) → sd[j]? = some m → ((f : Int), u'.who) ∈ links → Hon s (f : Int) → Eh f age (u'.qs.getD f []) = [(m, age)]) ∧
  ∀ y ∈ Eh f age (u'.qs.getD f []), y.1.from_ = (f : Int) ∧ y.1.Ok ∧ y.2 = age := by
 have hl := h.lane k u' hk f hf
 have hat : ∀ (j : Nat), ws[j]? = some (f : Int) → ∃ m : M, sd[j]? = some m ∧ m.Ok ∧ m.from_ = (f : Int) := by
  intro j hj; rw [← hws, List.getElem?_map] at hj; obtain ⟨u, hu, e⟩ := Option.map_eq_some_iff.1 hj; obtain ⟨_, m, _, h2, _, h4, h5⟩ := h.one j u hu; exact ⟨m, h2, h4, h5.trans e⟩
 refine ⟨?_, ?_, fun y hy => Nl hy⟩
 ·intro hc
  by_cases hw : (f : Int) ∈ ws
  ·obtain ⟨j, hj⟩ := List.getElem?_of_mem hw; obtain ⟨m, hm, _⟩ := hat j hj; rw [hl.2 j m hj hm]; unfold Nj; rw [if_neg (fun hx => (hc.resolve_left (fun h => h hw)) hx.1)]; rfl
  ·rw [hl.1 hw]; rfl
 ·intro j m hj hm hlk hh; obtain ⟨m2, hm2, hok, hfr⟩ := hat j hj; rw [hm] at hm2; injection hm2 with hm2; subst hm2; rw [hl.2 j m hj hm]; unfold Nj; rw [Af8 hh, if_pos ⟨hlk, Q5 hok⟩]; exact Si hok hfr age 0
def pA : Par := ⟨1, 0, 4, 1000, 1, 100, 10, 50, 20, 6, 5000, 1000⟩
theorem R8 : pA.Ok := by constructor <;> decide
theorem T8 (age : Nat → Int) {qs : Qs} (h : ∀ f, f < 48 → Eh f (age f) (qs.getD f []) = []) : Bj qs age 48 = [] := by
 unfold Bj; rw [List.flatMap_eq_nil_iff]; intro f hf; exact h f (List.mem_range.1 hf)
theorem Rl (age : Nat → Int) : Bj qs0 age 48 = [] := T8 age fun f _ => by rw [Wn]; rfl
theorem Aox (age : Nat → Int) {qs : Qs} {y : M × Int} (h0 : Eh 0 (age 0) (qs.getD 0 []) = [y]) (h : ∀ f, f < 48 → f ≠ 0 → Eh f (age f) (qs.getD f []) = []) : Bj qs age 48 = [y] := by
 unfold Bj; rw [List.range_succ_eq_map, List.flatMap_cons, h0]
 have : ((List.range 47).map Nat.succ).flatMap (fun f => Eh f (age f) (qs.getD f [])) = [] := by
  rw [List.flatMap_eq_nil_iff]; intro f hf; obtain ⟨g, hg, rfl⟩ := List.mem_map.1 hf; rw [List.mem_range] at hg; exact h _ (by omega) (by omega)
 rw [this]; rfl
def sA1 : Stt := Bm (Cx pA 0 (Bf pA S00) ⟨1000, [], none, 0, true, 5000, false, [], none, 0⟩)
def mA1 : M := Ik pA 0 (Bf pA S00) ⟨1000, [], none, 0, true, 5000, false, [], none, 0⟩
def sB1 : Stt := Bm (Ax pA [] (Bf pA S00) 1000 [])
theorem hA2 (HA : Option Addr) (hcap : Nat) (tb : List (Int × Int)) (TA : Option Addr) (tcap : Nat) : Bq pA (Bm (Cx pA 0 sA1 ⟨1000, [], HA, hcap, false, 0, false, tb, TA, tcap⟩)) = 1 := by kernel_rfl
theorem hB2 (A : Option Addr) (c clock : Nat) : Bq pA (Bm (Ax pA (Ad 16 [] clock [⟨mA1, A, c, 900⟩]).out sB1 1000 [])) = 1 := by kernel_rfl
theorem hB3 (A : Option Addr) (c clock : Nat) : (Ad 16 [] clock [⟨mA1, A, c, 900⟩]).out = [⟨mA1, A, c, 900⟩] := by kernel_rfl
theorem Bd2 : mA1.tab = [] := by kernel_rfl
theorem Be9 : sB1.tab = [] := by kernel_rfl
theorem W9 {links : List (Int × Int)} (hlk : links = [(0, 16)]) {us us1 us2 : List PU} (hus : us = F6 pA 1 ++ Gv pA 1) {s1 s2 : Stp} {sd1 sd2 : List M} (A : Option Addr) (c : Nat)
    (h1 : s1.reads = [⟨0, true, 5000, false, [], A, c⟩] ∧ s1.ticks = [] ∧ s1.ages = [] ∧ s1.lies = []) (h2 : s2.reads = [] ∧ s2.ticks = [] ∧ s2.ages = [] ∧ s2.lies = [])
    (b1 : Beats pA s1 (Ai 1 1) links us us1 sd1) (b2 : Beats pA s2 (Ai 1 1) links us1 us2 sd2) :
    ∃ u v, us2 = [u, v] ∧ Bq pA u.s = 1 ∧ Bq pA v.s = 1 := by
  obtain ⟨r1, t1, a1, l1⟩ := h1; obtain ⟨r2, t2, a2, l2⟩ := h2; have g0 : us[0]? = some (E2 pA 0 S00) := by rw [hus]; rfl
  have g1 : us[1]? = some (E2 pA 16 S00) := by rw [hus]; rfl
  have hul : us.length = 2 := by rw [hus]; rfl
  have hws : us.map (fun u => u.who) = Ai 1 1 := by rw [hus]; decide
  obtain ⟨u1, m1, hu1, hm1, ⟨w1, i1, hi1, c1⟩, ok1, fr1⟩ := b1.one 0 _ g0; obtain ⟨v1, n1, hv1, hn1, ⟨x1, k1, hk1, d1⟩, _, _⟩ := b1.one 1 _ g1
  have hh1 : i1.heard = [] := by
    have := hi1.heard; rw [show (E2 pA 0 S00).qs = qs0 from rfl, Rl] at this; exact List.map_eq_nil_iff.1 this
  have hh2 : k1.heard = [] := by
    have := hk1.heard; rw [show (E2 pA 16 S00).qs = qs0 from rfl, Rl] at this; exact List.map_eq_nil_iff.1 this
  have e1 : u1.s = sA1 ∧ m1 = mA1 := by
    obtain ⟨it, ir, ird, ig, itb, _⟩ := hi1; rw [t1] at it; rw [t1, r1] at ir ird ig itb; have it2 : i1.ticks = 1000 := it; have ir2 : i1.ref = true := ir; have ird2 : i1.reading = 5000 := ird; have ig2 : i1.given = false := ig; have itb2 : i1.tab = [] := itb; rcases c1 with ⟨_, hs, _, hm⟩ | ⟨hc, _⟩
    · obtain ⟨f1, f2, f3, f4, f5, f6, f7, f8, f9, f10⟩ := i1; simp only at hh1 it2 ir2 ird2 ig2 itb2; subst hh1; subst it2; subst ir2; subst ird2; subst ig2; subst itb2; exact ⟨hs, hm⟩
    · exact absurd (show (0 : Int) < 16 by decide) hc
  have e2 : v1.s = sB1 ∧ v1.es = [] := by
    have it : k1.ticks = Fe pA 16 s1.ticks := hk1.ticks; rw [t1] at it; have it2 : k1.ticks = 1000 := it; rcases d1 with ⟨hc, _⟩ | ⟨_, clock, tab, hct, hs, hes, _⟩
    · exact absurd hc (show ¬ (16 : Int) < 16 by decide)
    · rw [hh2] at hct hs hes; rw [it2] at hs
      have ht : tab = [] := by
        rcases hct with hct | ⟨h, hh, _⟩
        · exact hct
        · cases hh
      subst ht; exact ⟨hs, hes⟩
  have hw1 : us1.map (fun u => u.who) = Ai 1 1 := by
    have hl1 := b1.len
    obtain ⟨a, b, rfl⟩ : ∃ a b, us1 = [a, b] := by
      match us1, hl1 with
      | [a, b], _ => exact ⟨a, b, rfl⟩
      | [], h => rw [hul] at h; cases h
      | [_], h => rw [hul] at h; cases h
      | _ :: _ :: _ :: _, h => rw [hul] at h; simp at h
    have ea : a = u1 := by injection hu1
    have eb : b = v1 := by injection hv1
    subst ea; subst eb; show [a.who, b.who] = _; rw [w1, x1]
    decide
  obtain ⟨u2, m2, hu2, hm2, ⟨w2, i2, hi2, c2⟩, _, _⟩ := b2.one 0 _ hu1; obtain ⟨v2, n2, hv2, hn2, ⟨x2, k2, hk2, d2⟩, _, _⟩ := b2.one 1 _ hv1; have w1' : u1.who = 0 := w1; have x1' : v1.who = 16 := x1; have cell0 := fun (f : Nat) (hf : f < 48) (age : Int) => J2 b1 hws hu1 hf age; have cell1 := fun (f : Nat) (hf : f < 48) (age : Int) => J2 b1 hws hv1 hf age
  have hh3 : i2.heard = [] := by
    have := hi2.heard
    rw [T8 _ (fun f hf => (cell0 f hf _).1 (.inr (by
      rw [hlk, w1']; intro hx; rcases List.mem_singleton.1 hx with hx
      exact absurd (congrArg Prod.snd hx) (show ¬ (0 : Int) = 16 by decide))))] at this
    exact List.map_eq_nil_iff.1 this
  have hh4 : ∃ h : Hd, k2.heard = [h] ∧ h.m = mA1 ∧ h.age = 900 := by
    have := hk2.heard; rw [Aox (y := (m1, 900)) _ ?_ ?_] at this
    · match hk : k2.heard, this with
      | [h], this =>
        injection this with h3 _; refine ⟨h, rfl, ?_, ?_⟩
        · rw [← e1.2]; exact congrArg Prod.fst h3
        · exact congrArg Prod.snd h3
      | [], this => cases this
      | _ :: _ :: _, this => injection this with _ h3; cases h3
    · have := (cell1 0 (by decide) (Az pA v1.who s2.ages 0)).2.1 0 m1 rfl hm1 (by rw [hlk, x1']; exact .head _) (.inr (fun x hx => by rw [l1] at hx; cases hx)); rw [this, a2]; rfl
    · intro f hf h0; refine (cell1 f hf _).1 (.inr ?_); rw [hlk]; intro hx; rcases List.mem_singleton.1 hx with hx
      have := congrArg Prod.fst hx; dsimp only at this; omega
  have f1 : Bq pA u2.s = 1 := by
    have it : i2.ticks = Fe pA u1.who s2.ticks := hi2.ticks; have ir := hi2.ref; have ig := hi2.given; rw [t2, r2] at ir ig; rw [t2] at it; have it2 : i2.ticks = 1000 := it; have ir2 : i2.ref = false := ir; have ig2 : i2.given = false := ig; have ird2 : i2.reading = 0 := by have := hi2.reading; rw [t2, r2] at this; exact this
    rcases c2 with ⟨_, hs, _, hm⟩ | ⟨hc, _⟩
    · rw [hs, e1.1, w1']; obtain ⟨f1, f2, f3, f4, f5, f6, f7, f8, f9, f10⟩ := i2; simp only at hh3 it2 ir2 ig2 ird2; subst hh3; subst it2; subst ir2; subst ig2; subst ird2; exact hA2 _ _ _ _ _
    · exact absurd (show u1.who < 16 by rw [w1']; decide) hc
  have f2 : Bq pA v2.s = 1 := by
    obtain ⟨h, e4, e5, e6⟩ := hh4; have it : k2.ticks = Fe pA v1.who s2.ticks := hk2.ticks; rw [t2] at it; have it2 : k2.ticks = 1000 := it; rcases d2 with ⟨hc, _⟩ | ⟨_, clock, tab, hct, hs, hes, _⟩
    · exact absurd hc (show ¬ v1.who < 16 by rw [x1']; decide)
    · obtain ⟨hm, hA, hcp, ha⟩ := h; simp only at e5 e6; subst e5; subst e6; have h5 := hB3 hA hcp clock; have e7 : (Ad v1.who v1.es clock k2.heard).out = [⟨mA1, hA, hcp, 900⟩] := by rw [e4, x1', e2.2]; exact h5
      rw [e7] at hct hs; rw [e2.1] at hct
      have ht : tab = [] := by
        rcases hct with hct | ⟨h, hh, hht⟩
        · exact hct.trans Be9
        · have h6 : h ∈ [(⟨mA1, hA, hcp, 900⟩ : Hd)] := (Sw (Nw hh).1).1; rw [List.mem_singleton] at h6; rw [hht, h6]; exact Bd2
      subst ht; rw [hs, e2.1, it2, ← h5]; exact hB2 hA hcp clock
  have hl2 : us2.length = 2 := by rw [b2.len, b1.len, hul]
  refine ⟨u2, v2, ?_, f1, f2⟩
  match us2, hl2 with
  | [a, b], _ =>
    have ea : a = u2 := by injection hu2
    have eb : b = v2 := by injection hv2
    rw [ea, eb]
end
section
open Tryz Go.RowKit YtaanjifekgfemaaGreat.K YtaanjifekgfemaaGreat.W YtaanjifekgfemaaGreat.LN
attribute [local irreducible] Bg Ak Bb sub neg mag Da mul Dy
theorem Gs {S ρ ty} {parts : Array (Nat × Operand)} {x0 x2 x3 x4 x5 x6 x7 x8 x9 x10 x11 : Int} (hp : (parts.toList.map fun x => (x.1, ev ρ x.2)) = [(0, .int .i64 x0), (2, .int .i64 x2), (3, .int .i64 x3), (4, .int .i64 x4), (5, .int .i64 x5), (6, .int .i64 x6), (7, .int .i64 x7), (8, .int .i64 x8), (9, .int .i64 x9), (10, .int .i64 x10), (11, .int .i64 x11)]) : Y Tryz.prog S ρ (.build 23 parts) ty (.agg #[.int .i64 x0, .int .i64 0, .int .i64 x2, .int .i64 x3, .int .i64 x4, .int .i64 x5, .int .i64 x6, .int .i64 x7, .int .i64 x8, .int .i64 x9, .int .i64 x10, .int .i64 x11]) :=
 Y.build hp fun w => by simp [Instr.build, go_sem]
theorem Bn6 {S ρ ty} {parts : Array (Nat × Operand)}  (hp : (parts.toList.map fun x => (x.1, ev ρ x.2)) = []) : Y Tryz.prog S ρ (.build 40 parts) ty (.agg #[Value.slice none 0 0, Value.slice none 0 0, Value.slice none 0 0, Value.slice none 0 0, Value.slice none 0 0, Value.slice none 0 0, Value.slice none 0 0, Value.slice none 0 0]) :=
 Y.build hp fun w => by simp [Instr.build, go_sem]
theorem Biq {S ρ ty} {parts : Array (Nat × Operand)} {x1a : Option Addr} {x1l x1c : Nat} (hp : (parts.toList.map fun x => (x.1, ev ρ x.2)) = [(1, Value.slice x1a x1l x1c)]) : Y Tryz.prog S ρ (.build 40 parts) ty (.agg #[Value.slice none 0 0, Value.slice x1a x1l x1c, Value.slice none 0 0, Value.slice none 0 0, Value.slice none 0 0, Value.slice none 0 0, Value.slice none 0 0, Value.slice none 0 0]) :=
 Y.build hp fun w => by simp [Instr.build, go_sem]
theorem Aa2 {S ρ ty} {parts : Array (Nat × Operand)} {x0 : Int} {x1 : Bool} {x2 : Int} (hp : (parts.toList.map fun x => (x.1, ev ρ x.2)) = [(0, .int .i64 x0), (1, Value.bool x1), (2, .int .i64 x2)]) : Y Tryz.prog S ρ (.build 43 parts) ty (.agg #[.int .i64 x0, Value.bool x1, .int .i64 x2, Value.bool false, Value.slice none 0 0]) :=
 Y.build hp fun w => by simp [Instr.build, go_sem]
theorem Kf : CF 11 := fun _ _ => by simp [go_sem]
theorem Oq {x : Wd} {k : Nat} {m : UM} (hk : x.ms[k]? = some m) (p : Par) (wb : Nat) (L : List Res) : ∃ (T : TypeId) (rest : List Value) (L' : List Res), (x.res p wb L).Perm (frR m.fb T p m.u.s m.A m.cap rest :: L') := by
 have hf : (x.ms.map (UM.fres p))[k]? = some (m.fres p) := by rw [List.getElem?_map, hk]; rfl
 have p1 := Jz hf
 have key : ∃ (T : TypeId) (rest : List Value) (r : List Res), m.fres p = frR m.fb T p m.u.s m.A m.cap rest :: r := by
  unfold UM.fres; cases m.gate
  ·exact ⟨_, _, _, rfl⟩
  ·exact ⟨_, _, _, rfl⟩
 obtain ⟨T, rest, r, e⟩ := key; rw [e] at p1
 have h : ∀ (a b c : Res) (A B Z L : List Res) (f : Res), B.Perm (f :: Z) → (a :: b :: c :: (A ++ (B ++ L))).Perm (f :: (a :: b :: c :: (A ++ (Z ++ L)))) := by
  intro a b c A B Z L f hp; refine Gh fun P => ?_; have := hp.countP_eq P; simp only [List.countP_append, List.countP_cons] at this ⊢; omega
 rw [List.cons_append] at p1; exact ⟨T, rest, _, h _ _ _ _ _ _ _ _ p1⟩
theorem StepW.links_id {p : Par} {stp : Stp} {G G' : List Res} {x x' : Wd} (h : StepW p stp G G' x x') (h1 : stp.cut = []) (h2 : stp.join = []) : x'.links = x.links := by
 rw [h.links, h1, h2]; rfl
theorem Ws (x : Wd) (p : Par) (wb : Nat) (L : List Res) : L.Sublist (x.res p wb L) := by
 unfold Wd.res; exact .cons _ (.cons _ (.cons _ ((List.sublist_append_right _ _).trans (List.sublist_append_right _ _))))
theorem X0 {x : Wd} {k : Nat} {m : UM} (hk : x.ms[k]? = some m) (p : Par) (wb : Nat) (w0 w : World) (F0 : List Nat) (L G : List Res) (I : St w0 F0 w (x.res p wb L) G) :
  Calls Tryz.prog 21 #[.pointer (some ⟨m.fb, 0, none⟩)] w fun e w' => e = .returned (.int .i64 (Bq p m.u.s)) ∧ St w0 F0 w' (x.res p wb L) G := by
 obtain ⟨T, rest, L', hp⟩ := Oq hk p wb L; refine (Rh m.fb T p m.u.s m.A m.cap rest _ _ _ _ _ (I.perm hp)).mono ?_; rintro e w' ⟨h1, I⟩; exact ⟨h1, I.perm hp.symm⟩
set_option maxHeartbeats 4000000 in
theorem Am3 (tbl : List Int) (htl : tbl.length = 20) (w0 w : World) (F0 : List Nat) (L G : List Res) (I : St w0 F0 w L G) (hrn : Rds [] G (.slice none 0 0) 0 []) (hpw : Gw tbl ∈ G) :
    Calls Tryz.prog 6 #[] w fun e w' => e = .returned (.bool true) ∧ St w0 F0 w' L G := by
  refine W.func func6 O ntmps6 O<|Wh O<|I.g O O<|Ds O O<|I.y O (Gs O)<|Ow O (X.allocA I zeroValue23 fun p1 w1 I => Ow O (X.storeS I 0 sizeOf23 O O O O O (lZ O) O O fun _ I => Ds O O<|I.y O (Y.loadA 0 isAgg23 sizeOf23 O O O O)<|Ow O (Xl I (by rfl) (by rfl) (by rfl) [.int _ _] (by rfl) (by rfl) fun p7 w7 I => ?_))); refine Oc O Bqq O ?_; refine Ab (Bi0 pA R8 1 (by decide) [0] (by decide) (some ⟨p7, 0, none⟩) 1 [] (by decide) none 0 _ _ _ _ _ I.toFact (hrn.moreG (fun r h => .tail _ h)) (Rds.ofCellsG 0 O 1 1) (hrn.moreG (fun r h => .tail _ h))) O ?_; clear I; rintro e w8 ⟨wb, x, G1, rfl, hx, hG1, ht0, hl0, hpu, I⟩; replace I := I.resUp [_]; refine ⟨_, O, ?_⟩; refine I.y O (Y.moveU O)<|I.e O O O<|I.e O O O<|I.y O (Y.assignP O)<|I.a O O<|Od O<|Wq O<|Wh O<|I.u O O<|I.yb O (Y.neq O O) (fun b12 hb12 => Od O<|?_); cases b12
  · replace hb12 := dF hb12; refine Wu O O<|Wk O<|Wq O<|?_; have hl0' : x.links = [(0, 16)] := hl0.trans (by decide); have hpw1 : Gw tbl ∈ G1 := hG1 _ (.tail _ hpw); have hrn1 : Rds [] G1 (.slice none 0 0) 0 [] := hrn.moreG (fun r h => hG1 r (.tail _ h)); refine Wr O<|I.p O O<|I.y O (Aa2 O)<|Ow O (X.lit1 I underlying37 sizeOf43 zeroValue43 O O O fun p15 w15 I => I.y O (Biq O)<|?_); replace I := I.toFact
    have hs1 : (⟨[], [⟨0, true, 5000, false, [], none, 0⟩], [], [], [], [], [], [], (none, 0), (some ⟨p15, 0, none⟩, 1), (none, 0), (none, 0), (none, 0), (none, 0), (none, 0), (none, 0)⟩ : Stp).Ok (Aa p15 (Ae rdC [(⟨0, true, 5000, false, [], none, 0⟩ : Rd)]) 43 :: G1) := by
      have hrn9 := hrn1.moreG (G' := Aa p15 (Ae rdC [(⟨0, true, 5000, false, [], none, 0⟩ : Rd)]) 43 :: G1) (fun r h => .tail _ h); refine ⟨hrn9, Rds.ofCellsG 0 O 1 1, hrn9, hrn9, hrn9, hrn9, hrn9, hrn9, by simp, ?_⟩; intro r hr; rcases List.mem_singleton.1 hr with rfl
      exact ⟨Cz Ek, hrn9⟩
    refine Oc O cf9 O ?_; refine Ab (Aa3 tbl htl (⟨[], [⟨0, true, 5000, false, [], none, 0⟩], [], [], [], [], [], [], (none, 0), (some ⟨p15, 0, none⟩, 1), (none, 0), (none, 0), (none, 0), (none, 0), (none, 0), (none, 0)⟩ : Stp) wb pA R8 1 (by decide) x _ _ _ _ _ (I.resDn [_]) (hx.mono (fun r h => .tail _ h)) (by rw [hl0']; simp) hs1 (.tail _ hpw1)) rfl ?_; clear I; rintro e w17 ⟨x1, G2, rfl, hstep1, hx1, hG2, I⟩; replace I := I.resUp [_]; refine ⟨_, O, ?_⟩; refine Od O<|Wq O<|?_; have hl1' : x1.links = [(0, 16)] := (hstep1.links_id rfl rfl).trans hl0'; have hrn2 : Rds [] G2 (.slice none 0 0) 0 [] := hrn1.moreG (fun r h => hG2 r (.tail _ h)); have hs2 : (⟨[], [], [], [], [], [], [], [], (none, 0), (none, 0), (none, 0), (none, 0), (none, 0), (none, 0), (none, 0), (none, 0)⟩ : Stp).Ok G2 := ⟨hrn2, hrn2, hrn2, hrn2, hrn2, hrn2, hrn2, hrn2, by decide, fun r h => by cases h⟩; refine Wr O<|I.p O O<|I.y O (Bn6 O)<|Oc O cf9 O ?_; refine Ab (Aa3 tbl htl (⟨[], [], [], [], [], [], [], [], (none, 0), (none, 0), (none, 0), (none, 0), (none, 0), (none, 0), (none, 0), (none, 0)⟩ : Stp) wb pA R8 1 (by decide) x1 _ _ _ _ _ (I.resDn [_]) hx1 (by rw [hl1']; simp) hs2 (hG2 _ (.tail _ hpw1))) rfl ?_; clear I; rintro e w20 ⟨x2, G3, rfl, hstep2, hx2, hG3, I⟩; replace I := I.resUp [_]; refine ⟨_, O, ?_⟩; refine Od O<|Wq O<|?_; have hl2' : x2.links = [(0, 16)] := (hstep2.links_id rfl rfl).trans hl1'; obtain ⟨sd1, hbe1⟩ := hstep1.beats R8 (by decide) (hx.mono (fun r h => .tail _ h)) rfl rfl (by rw [hl1']; decide) hx1.links; obtain ⟨sd2, hbe2⟩ := hstep2.beats R8 (by decide) hx1 rfl rfl (by rw [hl2']; decide) hx2.links; rw [hl1'] at hbe1; rw [hl2'] at hbe2; obtain ⟨u, v, huv, hh0, hh1⟩ := W9 rfl hpu none 0 ⟨rfl, rfl, rfl, rfl⟩ ⟨rfl, rfl, rfl, rfl⟩ hbe1 hbe2; have hlen2 := hx2.len
    obtain ⟨m0, m1, hms⟩ : ∃ a b, x2.ms = [a, b] := by
      match hm : x2.ms, hlen2 with
      | [a, b], _ => exact ⟨a, b, rfl⟩
      | [], h => cases h
      | [_], h => cases h
      | _ :: _ :: _ :: _, h => simp [hm] at hlen2; have : pA.N.toNat = 1 := rfl; omega
    have hm0 : x2.ms[0]? = some m0 := by rw [hms]; rfl
    have hm1 : x2.ms[1]? = some m1 := by rw [hms]; rfl
    have hw := hx2.who; unfold puL at huv; rw [hms] at hw huv; have hw0 : m0.u.who = 0 := by injection hw
    have hw1 : m1.u.who = 16 := by injection hw with _ hw; injection hw
    have hu0 : m0.u = u := by injection huv
    have hu1 : m1.u = v := by injection huv with _ huv; injection huv
    rw [← hu0] at hh0; rw [← hu1] at hh1; refine Wr O<|I.p O O<|Oc O Kf O ?_; refine Ab (C8 0 wb pA R8 1 (by decide) x2 _ _ _ _ _ (I.resDn [_]) hx2 0 m0 hm0 hw0) O ?_; clear I; rintro e w_f ⟨rfl, I⟩; replace I := I.resUp [_]; refine ⟨_, O, ?_⟩; refine Oc O Bj3 O ?_; refine Ab (X0 hm0 pA wb _ _ _ _ _ (I.resDn [_])) O ?_; clear I; rintro e w_h ⟨rfl, I⟩; replace I := I.resUp [_]; refine ⟨_, O, ?_⟩; refine I.Y O O O (fun b24 hb24 => I.b O O<|?_); cases b24
    · replace hb24 := dF hb24; exact absurd hh0 hb24
    · replace hb24 := dT hb24; refine I.p O O<|Oc O Kf O ?_; refine Ab (C8 16 wb pA R8 1 (by decide) x2 _ _ _ _ _ (I.resDn [_]) hx2 1 m1 hm1 hw1) O ?_; clear I; rintro e w_f ⟨rfl, I⟩; replace I := I.resUp [_]; refine ⟨_, O, ?_⟩; refine Oc O Bj3 O ?_; refine Ab (X0 hm1 pA wb _ _ _ _ _ (I.resDn [_])) O ?_; clear I; rintro e w_h ⟨rfl, I⟩; replace I := I.resUp [_]; refine ⟨_, O, ?_⟩; refine I.Y O O O (fun b29 hb29 => I.k O O O<|I.g O O<|Od O<|We O<|⟨_, Ac.one results6 O, ?_⟩)
      first
      | exact absurd hh1 hb29
      | (have e9 : b29 = true := by (rw [hb29]; exact decide_eq_true hh1)
         rw [e9]
         exact ⟨O, ((I.dr 1).sub (Ws _ _ _ _)).facts (fun r h => hG3 r (hG2 r (.tail _ (hG1 r (.tail _ h)))))⟩)
  · replace hb12 := dT hb12; exact absurd O hb12
end
section
open Tryz Go.RowKit YtaanjifekgfemaaGreat.K YtaanjifekgfemaaGreat.W YtaanjifekgfemaaGreat.LN
structure Stp.In (G : List Res) (s : Stp) : Prop where
  ticks : Rds [] G (.slice s.a0.1 s.ticks.length s.a0.2) s.ticks.length (Ae Aq s.ticks)
  reads : Rds [] G (.slice s.a1.1 s.reads.length s.a1.2) s.reads.length (Ae rdC s.reads)
  ages : Rds [] G (.slice s.a2.1 s.ages.length s.a2.2) s.ages.length (Ae agC s.ages)
  lost : Rds [] G (.slice s.a3.1 s.lost.length s.a3.2) s.lost.length (Ae Aq s.lost)
  lies : Rds [] G (.slice s.a4.1 s.lies.length s.a4.2) s.lies.length (Ae liC s.lies)
  off : Rds [] G (.slice s.a5.1 s.off.length s.a5.2) s.off.length (ivs s.off)
  cut : Rds [] G (.slice s.a6.1 s.cut.length s.a6.2) s.cut.length (Ae Aq s.cut)
  join : Rds [] G (.slice s.a7.1 s.join.length s.a7.2) s.join.length (Ae Aq s.join)
  lens : s.ticks.length ≤ 140737488355328 ∧ s.reads.length ≤ 140737488355328 ∧ s.ages.length ≤ 140737488355328 ∧ s.lost.length ≤ 140737488355328 ∧ s.lies.length ≤ 140737488355328 ∧ s.off.length ≤ 140737488355328 ∧ s.cut.length ≤ 140737488355328 ∧ s.join.length ≤ 140737488355328
  tabs : ∀ r ∈ s.reads, r.tab.length ≤ 140737488355328 ∧ (∀ y ∈ r.tab, Bz y.1 ∧ Bz y.2) ∧ Rds [] G (.slice r.A r.tab.length r.cap) r.tab.length (lcs r.tab)
def Stp.parts (s : Stp) : Int := s.ticks.length + s.reads.length + s.ages.length + s.lost.length + s.lies.length + s.off.length + s.cut.length + s.join.length
theorem Stp.In.ok {G : List Res} {s : Stp} (h : s.In G) (hp : s.parts ≤ 200) (ht : ∀ j (hj : j < s.reads.length), (s.reads[j]).tab.length ≤ 1000) : s.Ok G := by
 unfold Stp.parts at hp; refine ⟨h.ticks, h.reads, h.ages, h.lost, h.lies, h.off, h.cut, h.join, by omega, fun r hr => ?_⟩; obtain ⟨h1, h2, h3⟩ := h.tabs r hr; obtain ⟨j, hj, rfl⟩ := List.getElem_of_mem hr; exact ⟨⟨by have := ht j hj; omega, h2⟩, h3⟩
theorem Oe (ws : List Int) (l : List (Int × Int)) (y : Int × Int) : (Eg ws l y).length ≤ l.length + 1 := by unfold Eg; split <;> simp
theorem Bd1 (ws : List Int) (n : Nat) (cs : List Int) (ls : List (Int × Int)) : (lnk ws n cs ls).length ≤ n * (n + cs.length) + 2 * ls.length := by
  have hk : ∀ (i n : Nat) (l : List (Int × Int)), (jkW ws i l n).length ≤ l.length + n := by
    intro i n l
    induction n with
    | zero => exact Nat.le_refl _
    | succ n ih =>
      have e : jkW ws i l (n + 1) = Eg ws (jkW ws i l n) ((i : Int), (n : Int)) := by unfold jkW; rw [List.range_succ, List.foldl_append]; rfl
      rw [e]; have := Oe ws (jkW ws i l n) ((i : Int), (n : Int)); omega
  have hc : ∀ (i : Nat) (cs : List Int) (l : List (Int × Int)), (jcW ws i l cs).length ≤ l.length + cs.length := by
    intro i cs; unfold jcW
    induction cs with
    | nil => intro l; simp
    | cons c cs ih =>
      intro l; have h1 := ih (if 0 ≤ c ∧ c < 32 then Eg ws l ((i : Int), 16 + c) else l)
      have h2 : (if 0 ≤ c ∧ c < 32 then Eg ws l ((i : Int), 16 + c) else l).length ≤ l.length + 1 := by
        split
        · exact Oe _ _ _
        · omega
      simp only [List.foldl_cons, List.length_cons] at h1 ⊢; omega
  have hi : ∀ (m : Nat), (jiW ws n cs m).length ≤ m * (n + cs.length) := by
    intro m
    induction m with
    | zero => simp [jiW]
    | succ m ih =>
      have e : jiW ws n cs (m + 1) = jcW ws m (jkW ws m (jiW ws n cs m) n) cs := by unfold jiW; rw [List.range_succ, List.foldl_append]; rfl
      rw [e, Nat.add_mul]; have h1 := hk m n (jiW ws n cs m); have h2 := hc m cs (jkW ws m (jiW ws n cs m) n); omega
  unfold lnk
  have hl : ∀ (ls l : List (Int × Int)), (ls.foldl (C3 (Eg ws)) l).length ≤ l.length + 2 * ls.length := by
    intro ls
    induction ls with
    | nil => intro l; simp
    | cons y ls ih =>
      intro l; have h1 := ih (C3 (Eg ws) l y); have h2 := Tt (Oe ws) l y; simp only [List.foldl_cons, List.length_cons] at h1 ⊢; omega
  have := hl ls (jiW ws n cs n); have := hi n; omega
end
section
open Tryz Go.RowKit YtaanjifekgfemaaGreat.K YtaanjifekgfemaaGreat.W YtaanjifekgfemaaGreat.LN
attribute [local irreducible] Bg Ak Bb sub neg mag Da mul Dy
theorem cf6 : CF 6 := fun _ _ => by simp [go_sem]
theorem cf7 : CF 7 := fun _ _ => by simp [go_sem]
theorem cf8 : CF 8 := fun _ _ => by simp [go_sem]
end
end Go.Proofs.YtaanjifekgfemaaGreat.Cl
