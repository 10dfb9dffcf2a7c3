/- What the proof rests on, part 1. -/
import Derived.Shelf.Small.Bits
import Derived.Shelf.Strconv.Itoa0
import Derived.Shelf.Strconv.Itoa1
import Derived.Shelf.Strconv.Itoa2
import Derived.Shelf.Sort.Plain
import Derived.Shelf.Slices.In.SortNone
import Derived.Sort.OwnSortedInts
import Derived.Test.YtaanjifekgfemaaGreatProg
import Derived.WalkKit
import Derived.ProofKit
import Derived.Below
import Derived.Deep.Draws
import Derived.Lib.Hide
import Derived.Deep.RegionHeld3
import Derived.Laws.BytesArg
import Derived.Maps.AppendAt
import Derived.Deep.OwnRows
import Derived.Deep.LoopGhost
import Derived.Deep.Slices
import Derived.Deep.Fields
import Derived.ChangeSame
import Derived.ChangeArms
import Derived.Laws.BitsLemmas
import Derived.Recover
import Derived.Laws.IdiomStrings
import Derived.Laws.StructEq
import Derived.RangeFuncBox
import Derived.RangeFuncLeaves
import Derived.Shelf.Abstract
import Derived.OwnWalkIn
import Derived.TacticsInMore
import Derived.LoopNIn
import Derived.LoopIn
import Derived.RangeFuncBound
import Derived.Sort.OwnSorted
import Derived.Maps.RangeRun
import Derived.Lib.Builder
import Derived.Lib.AppendStr
import Derived.Lib.UnsafeStr
import Derived.Laws.MakeOwn
import Derived.SizedLaws
import Derived.HandedShaped
import Derived.OpenShut
import Derived.ShutString
import Derived.ChangeOld
set_option linter.unusedVariables false
set_option linter.unusedSimpArgs false
set_option linter.unusedSectionVars false
namespace Go.Proofs
section
open Go.Shelf
def Tryz.lays129_ren : Go.Shelf.Ren := ⟨fun | 129 => 98 | n => n, fun | 53 => 192 | 3 => 3 | 4 => 4 | 46 => 146 | 5 => 5 | 9 => 9 | n => n, fun | n => n⟩
theorem Tryz.lays129 : Go.Proofs.Lays.n129 Tryz.prog Tryz.lays129_ren := {
  mixed := by kernel_rfl
  f129 := Tryz.func98.trans (congrArg some (by kernel_rfl))
  t3 := Tryz.underlying3
  a3 := Tryz.isAgg3
  z3 := Tryz.sizeOf3
  v3 := Tryz.zeroValue3
  t4 := Tryz.underlying4
  a4 := Tryz.isAgg4
  z4 := Tryz.sizeOf4
  v4 := Tryz.zeroValue4
  t5 := Tryz.underlying5
  a5 := Tryz.isAgg5
  z5 := Tryz.sizeOf5
  v5 := Tryz.zeroValue5
  t9 := Tryz.underlying9
  a9 := Tryz.isAgg9
  z9 := Tryz.sizeOf9
  v9 := Tryz.zeroValue9
  t46 := Tryz.underlying146
  a46 := Tryz.isAgg146
  z46 := Tryz.sizeOf146
  v46 := Tryz.zeroValue146
  t53 := Tryz.underlying192
  a53 := Tryz.isAgg192
  z53 := Tryz.sizeOf192
  v53 := Tryz.zeroValue192 }
theorem Tryz.bits_Len64 (x : Int) (w : World) (h0 : 0 ≤ x) (h1 : x ≤ 18446744073709551615) :
    Calls Tryz.prog 98 #[.int .u64 x] w fun e w' => e = .returned (.int .i64 (Lib.bitLen x.toNat)) ∧ w' = w := Any.bits_Len64 Tryz.lays129 x w h0 h1
def Tryz.lays317_ren : Go.Shelf.Ren := ⟨fun | 317 => 208 | n => n, fun | 3 => 3 | 46 => 146 | n => n, fun | n => n⟩
theorem Tryz.lays317 : Go.Proofs.Lays.n317 Tryz.prog Tryz.lays317_ren := {
  mixed := by kernel_rfl
  f317 := Tryz.func208.trans (congrArg some (by kernel_rfl))
  t3 := Tryz.underlying3
  a3 := Tryz.isAgg3
  z3 := Tryz.sizeOf3
  v3 := Tryz.zeroValue3
  t46 := Tryz.underlying146
  a46 := Tryz.isAgg146
  z46 := Tryz.sizeOf146
  v46 := Tryz.zeroValue146 }
open Go.Lib in
theorem Tryz.internal_strconv_log10Pow2 (x : Nat) (h : x ≤ 64) (w : World) :
    Calls Tryz.prog 208 #[.int .i64 x] w fun e w' => e = .returned (.int .i64 (Lib.l10 x)) ∧ w' = w := Any.internal_strconv_log10Pow2 Tryz.lays317 x h w
def Tryz.lays318_ren : Go.Shelf.Ren := ⟨fun | 318 => 209 | n => n, fun | 3 => 3 | 4 => 4 | n => n, fun | n => n⟩
theorem Tryz.lays318 : Go.Proofs.Lays.n318 Tryz.prog Tryz.lays318_ren := {
  mixed := by kernel_rfl
  f318 := Tryz.func209.trans (congrArg some (by kernel_rfl))
  t3 := Tryz.underlying3
  a3 := Tryz.isAgg3
  z3 := Tryz.sizeOf3
  v3 := Tryz.zeroValue3
  t4 := Tryz.underlying4
  a4 := Tryz.isAgg4
  z4 := Tryz.sizeOf4
  v4 := Tryz.zeroValue4 }
open Go.Lib in
theorem Tryz.internal_strconv_bool2_int (b : Bool) (w : World) :
    Calls Tryz.prog 209 #[.bool b] w fun e w' => e = .returned (.int .i64 (if b then 1 else 0)) ∧ w' = w := Any.internal_strconv_bool2_int Tryz.lays318 b w
def Tryz.lays283_ren : Go.Shelf.Ren := ⟨fun | 283 => 204 | n => n, fun | 3 => 3 | 9 => 9 | 4 => 4 | n => n, fun | n => n⟩
theorem Tryz.lays283 : Go.Proofs.Lays.n283 Tryz.prog Tryz.lays283_ren := {
  mixed := by kernel_rfl
  f283 := Tryz.func204.trans (congrArg some (by kernel_rfl))
  t3 := Tryz.underlying3
  a3 := Tryz.isAgg3
  z3 := Tryz.sizeOf3
  v3 := Tryz.zeroValue3
  t4 := Tryz.underlying4
  a4 := Tryz.isAgg4
  z4 := Tryz.sizeOf4
  v4 := Tryz.zeroValue4
  t9 := Tryz.underlying9
  a9 := Tryz.isAgg9
  z9 := Tryz.sizeOf9
  v9 := Tryz.zeroValue9 }
open Go.Lib in
theorem Tryz.internal_strconv_small (i : Nat) (h : i < 100) (w : World) :
    Calls Tryz.prog 204 #[.int .i64 i] w fun e w' => e = .returned (.string ⟨(Lib.decDigits i).toArray⟩) ∧ w' = w := Any.internal_strconv_small Tryz.lays283 i h w
def Tryz.lays189_ren : Go.Shelf.Ren := ⟨fun | 189 => 150 | 125 => 155 | 257 => 154 | 128 => 165 | 129 => 98 | 294 => 156 | 295 => 157 | 296 => 158 | 297 => 159 | 298 => 160 | 299 => 161 | 216 => 162 | 300 => 163 | 301 => 164 | 328 => 166 | 329 => 167 | 330 => 168 | 331 => 169 | 332 => 170 | 215 => 171 | 343 => 172 | n => n, fun | 28 => 24 | 3 => 3 | 46 => 146 | 0 => 0 | 51 => 199 | 53 => 192 | 4 => 4 | 183 => 267 | 182 => 266 | 131 => 252 | 5 => 5 | 9 => 9 | 218 => 274 | 222 => 179 | 228 => 279 | 229 => 147 | n => n, fun | n => n⟩
theorem Tryz.lays189 : Go.Proofs.Lays.n189 Tryz.prog Tryz.lays189_ren := {
  mixed := by kernel_rfl
  f125 := Tryz.func155.trans (congrArg some (by kernel_rfl))
  f128 := Tryz.func165.trans (congrArg some (by kernel_rfl))
  f129 := Tryz.func98.trans (congrArg some (by kernel_rfl))
  f189 := Tryz.func150.trans (congrArg some (by kernel_rfl))
  f215 := Tryz.func171.trans (congrArg some (by kernel_rfl))
  f216 := Tryz.func162.trans (congrArg some (by kernel_rfl))
  f257 := Tryz.func154.trans (congrArg some (by kernel_rfl))
  f294 := Tryz.func156.trans (congrArg some (by kernel_rfl))
  f295 := Tryz.func157.trans (congrArg some (by kernel_rfl))
  f296 := Tryz.func158.trans (congrArg some (by kernel_rfl))
  f297 := Tryz.func159.trans (congrArg some (by kernel_rfl))
  f298 := Tryz.func160.trans (congrArg some (by kernel_rfl))
  f299 := Tryz.func161.trans (congrArg some (by kernel_rfl))
  f300 := Tryz.func163.trans (congrArg some (by kernel_rfl))
  f301 := Tryz.func164.trans (congrArg some (by kernel_rfl))
  f328 := Tryz.func166.trans (congrArg some (by kernel_rfl))
  f329 := Tryz.func167.trans (congrArg some (by kernel_rfl))
  f330 := Tryz.func168.trans (congrArg some (by kernel_rfl))
  f331 := Tryz.func169.trans (congrArg some (by kernel_rfl))
  f332 := Tryz.func170.trans (congrArg some (by kernel_rfl))
  f343 := Tryz.func172.trans (congrArg some (by kernel_rfl))
  t0 := Tryz.underlying0
  a0 := Tryz.isAgg0
  z0 := Tryz.sizeOf0
  v0 := Tryz.zeroValue0
  t3 := Tryz.underlying3
  a3 := Tryz.isAgg3
  z3 := Tryz.sizeOf3
  v3 := Tryz.zeroValue3
  t4 := Tryz.underlying4
  a4 := Tryz.isAgg4
  z4 := Tryz.sizeOf4
  v4 := Tryz.zeroValue4
  t5 := Tryz.underlying5
  a5 := Tryz.isAgg5
  z5 := Tryz.sizeOf5
  v5 := Tryz.zeroValue5
  t9 := Tryz.underlying9
  a9 := Tryz.isAgg9
  z9 := Tryz.sizeOf9
  v9 := Tryz.zeroValue9
  t28 := Tryz.underlying24
  a28 := Tryz.isAgg24
  z28 := Tryz.sizeOf24
  v28 := Tryz.zeroValue24
  t46 := Tryz.underlying146
  a46 := Tryz.isAgg146
  z46 := Tryz.sizeOf146
  v46 := Tryz.zeroValue146
  t51 := Tryz.underlying199
  a51 := Tryz.isAgg199
  z51 := Tryz.sizeOf199
  v51 := Tryz.zeroValue199
  t53 := Tryz.underlying192
  a53 := Tryz.isAgg192
  z53 := Tryz.sizeOf192
  v53 := Tryz.zeroValue192
  t131 := Tryz.underlying252
  a131 := Tryz.isAgg252
  z131 := Tryz.sizeOf252
  v131 := Tryz.zeroValue252
  t182 := Tryz.underlying266
  a182 := Tryz.isAgg266
  z182 := Tryz.sizeOf266
  v182 := Tryz.zeroValue266
  t183 := Tryz.underlying267
  a183 := Tryz.isAgg267
  z183 := Tryz.sizeOf267
  v183 := Tryz.zeroValue267
  t218 := Tryz.underlying274
  a218 := Tryz.isAgg274
  z218 := Tryz.sizeOf274
  v218 := Tryz.zeroValue274
  t222 := Tryz.underlying179
  a222 := Tryz.isAgg179
  z222 := Tryz.sizeOf179
  v222 := Tryz.zeroValue179
  t228 := Tryz.underlying279
  a228 := Tryz.isAgg279
  z228 := Tryz.sizeOf279
  v228 := Tryz.zeroValue279
  t229 := Tryz.underlying147
  a229 := Tryz.isAgg147
  z229 := Tryz.sizeOf147
  v229 := Tryz.zeroValue147 }
open Go.Sort Go.RowKit in
theorem Tryz.slices_Sort_int (blk off cap : Nat) (zs : List Int) (w : World) (hH : Holds (Value.int .i64) w blk off zs.toArray) (hblk : blk < w.heap.size) (hsz : zs.length < 4611686018427387904) :
    Calls Tryz.prog 150 #[.slice (some ⟨blk, off, none⟩) zs.length cap] w fun e w' =>
      e = .returned (.tuple #[]) ∧ ∃ n os, w' = grow (putRow (Value.int .i64) (Sort.ahead w n) blk off (zs.mergeSort fun x y => decide (x ≤ y)).toArray) os := Any.slices_Sort_int Tryz.lays189 blk off cap zs w hH hblk hsz
open Go.RowKit Go.Sort in
theorem Tryz.slices_Sort_int_none (p : Option Addr) (cap : Nat) (w : World) :
    Calls Tryz.prog 150 #[.slice p 0 cap] w fun e w' => e = .returned (.tuple #[]) ∧ w' = w := Any.slices_Sort_int_none Tryz.lays189 p cap w
end
end Go.Proofs
namespace Go.Proofs.YtaanjifekgfemaaGreat.K
section
open Go.RowKit
structure Res where
  fp : List Nat
  holds : World → Prop
  loc : ∀ w w' : World, (∀ b ∈ fp, w'.heap[b]? = w.heap[b]?) → holds w → holds w'
def fps (L : List Res) : List Nat := L.flatMap (·.fp)
@[simp] theorem Bbz : fps [] = [] := rfl
@[simp] theorem Ji (r : Res) (L : List Res) : fps (r :: L) = r.fp ++ fps L := by simp [fps]
@[simp] theorem Hy (L M : List Res) : fps (L ++ M) = fps L ++ fps M := by simp [fps]
structure St (w0 : World) (F0 : List Nat) (w : World) (L G : List Res) : Prop where
  os : w.os = w0.os
  tape : w.tape = w0.tape
  output : w.output = w0.output
  size : w0.heap.size ≤ w.heap.size
  frame : ∀ b, b < w0.heap.size → b ∉ F0 → w.heap[b]? = w0.heap[b]?
  own : ∀ b ∈ fps L, b < w.heap.size ∧ (b ∈ F0 ∨ w0.heap.size ≤ b)
  nod : (fps L).Nodup
  res : ∀ r ∈ L, r.holds w
  fact : ∀ g ∈ G, g.holds w ∧ ∀ b ∈ g.fp, b < w.heap.size ∧ b ∉ fps L
theorem St.start (w : World) : St w [] w [] [] :=
  ⟨rfl, rfl, rfl, Nat.le_refl _, fun _ _ _ => rfl, by simp, by simp, by simp, by simp⟩
theorem St.below {w0 w : World} {L G : List Res} (h : St w0 [] w L G) : Below w0.heap.size w0 w :=
  ⟨h.os, h.tape, h.output, h.size, fun k hk => h.frame k hk (by simp)⟩
theorem St.step {w0 : World} {F0 : List Nat} {w w' : World} {L1 L2 L G : List Res} (h : St w0 F0 w (L1 ++ L) G)
    (os : w'.os = w.os) (tape : w'.tape = w.tape) (output : w'.output = w.output) (size : w.heap.size ≤ w'.heap.size)
    (keep : ∀ b, b < w.heap.size → b ∉ fps L1 → w'.heap[b]? = w.heap[b]?)
    (own : ∀ b ∈ fps L2, b ∈ fps L1 ∨ (w.heap.size ≤ b ∧ b < w'.heap.size)) (nod : (fps L2).Nodup)
    (res : ∀ r ∈ L2, r.holds w') : St w0 F0 w' (L2 ++ L) G := by
  have hd : ∀ b ∈ fps L1, b ∉ fps L := by
    have := h.nod
    rw [Hy, List.nodup_append] at this
    intro b hb hb'
    exact this.2.2 b hb b hb' rfl
  have hnL : (fps L).Nodup := by
    have := h.nod
    rw [Hy, List.nodup_append] at this
    exact this.2.1
  have ltL : ∀ b ∈ fps L, b < w.heap.size := fun b hb => (h.own b (by simp [hb])).1
  refine ⟨os.trans h.os, tape.trans h.tape, output.trans h.output, Nat.le_trans h.size size, ?_, ?_, ?_, ?_, ?_⟩
  · intro b hb hF
    have hb' := Nat.lt_of_lt_of_le hb h.size
    rw [keep b hb' ?_, h.frame b hb hF]
    intro hm
    rcases (h.own b (by simp [hm])).2 with h1 | h1
    · exact hF h1
    · omega
  · intro b hb
    rw [Hy, List.mem_append] at hb
    rcases hb with hb | hb
    · rcases own b hb with h1 | h1
      · obtain ⟨h2, h3⟩ := h.own b (by simp [h1])
        exact ⟨Nat.lt_of_lt_of_le h2 size, h3⟩
      · exact ⟨h1.2, .inr (Nat.le_trans h.size h1.1)⟩
    · obtain ⟨h2, h3⟩ := h.own b (by simp [hb])
      exact ⟨Nat.lt_of_lt_of_le h2 size, h3⟩
  · rw [Hy, List.nodup_append]
    refine ⟨nod, hnL, ?_⟩
    intro a ha b hb hab
    subst hab
    rcases own a ha with h1 | h1
    · exact hd a h1 hb
    · have := ltL a hb; omega
  · intro r hr
    rw [List.mem_append] at hr
    rcases hr with hr | hr
    · exact res r hr
    · refine r.loc w w' (fun b hb => ?_) (h.res r (by simp [hr]))
      have hm : b ∈ fps L := List.mem_flatMap.2 ⟨r, hr, hb⟩
      exact keep b (ltL b hm) (fun hx => hd b hx hm)
  · intro g hg
    obtain ⟨h1, h2⟩ := h.fact g hg
    refine ⟨g.loc w w' (fun b hb => ?_) h1, fun b hb => ?_⟩
    · obtain ⟨h3, h4⟩ := h2 b hb
      exact keep b h3 (fun hx => h4 (by simp [hx]))
    · obtain ⟨h3, h4⟩ := h2 b hb
      refine ⟨Nat.lt_of_lt_of_le h3 size, ?_⟩
      rw [Hy, List.mem_append]
      rintro (hx | hx)
      · rcases own b hx with h5 | h5
        · exact h4 (by simp [h5])
        · omega
      · exact h4 (by simp [hx])
theorem St.perm {w0 : World} {F0 : List Nat} {w : World} {L L' G : List Res} (h : St w0 F0 w L G) (p : L.Perm L') : St w0 F0 w L' G := by
  have hf : (fps L).Perm (fps L') := List.Perm.flatMap_right _ p
  refine ⟨h.os, h.tape, h.output, h.size, h.frame, fun b hb => h.own b (hf.mem_iff.2 hb), hf.nodup_iff.1 h.nod, fun r hr => h.res r (p.mem_iff.2 hr), fun g hg => ?_⟩
  obtain ⟨h1, h2⟩ := h.fact g hg
  exact ⟨h1, fun b hb => ⟨(h2 b hb).1, fun hx => (h2 b hb).2 (hf.mem_iff.2 hx)⟩⟩
theorem St.swap {w0 : World} {F0 : List Nat} {w : World} {r s : Res} {L G : List Res} (h : St w0 F0 w (r :: s :: L) G) : St w0 F0 w (s :: r :: L) G :=
  h.perm (List.Perm.swap _ _ _)
theorem St.up3 {w0 : World} {F0 : List Nat} {w : World} {r s t : Res} {L G : List Res} (h : St w0 F0 w (r :: s :: t :: L) G) : St w0 F0 w (t :: r :: s :: L) G :=
  h.perm (((List.Perm.swap t s L).cons r).trans (List.Perm.swap _ _ _))
theorem St.up4 {w0 : World} {F0 : List Nat} {w : World} {r s t u : Res} {L G : List Res} (h : St w0 F0 w (r :: s :: t :: u :: L) G) : St w0 F0 w (u :: r :: s :: t :: L) G :=
  h.perm ((((List.Perm.swap u t L).cons s).trans (List.Perm.swap u s _)).cons r |>.trans (List.Perm.swap _ _ _))
theorem St.drop {w0 : World} {F0 : List Nat} {w : World} {r : Res} {L G : List Res} (h : St w0 F0 w (r :: L) G) : St w0 F0 w L G := by
  refine ⟨h.os, h.tape, h.output, h.size, h.frame, fun b hb => h.own b (by simp [hb]), ?_, fun s hs => h.res s (by simp [hs]), fun g hg => ?_⟩
  · have := h.nod
    rw [Ji, List.nodup_append] at this
    exact this.2.1
  · obtain ⟨h1, h2⟩ := h.fact g hg
    exact ⟨h1, fun b hb => ⟨(h2 b hb).1, fun hx => (h2 b hb).2 (by simp [hx])⟩⟩
theorem St.toFact {w0 : World} {F0 : List Nat} {w : World} {r : Res} {L G : List Res} (h : St w0 F0 w (r :: L) G) : St w0 F0 w L (r :: G) := by
  have hd := h.drop
  refine ⟨hd.os, hd.tape, hd.output, hd.size, hd.frame, hd.own, hd.nod, hd.res, fun g hg => ?_⟩
  rcases List.mem_cons.1 hg with rfl | hg
  · refine ⟨h.res g (by simp), fun b hb => ⟨(h.own b (by simp [hb])).1, fun hx => ?_⟩⟩
    have := h.nod
    rw [Ji, List.nodup_append] at this
    exact this.2.2 b hb b hx rfl
  · exact hd.fact g hg
theorem St.facts {w0 : World} {F0 : List Nat} {w : World} {L G G' : List Res} (h : St w0 F0 w L G) (hs : ∀ g ∈ G', g ∈ G) : St w0 F0 w L G' :=
  ⟨h.os, h.tape, h.output, h.size, h.frame, h.own, h.nod, h.res, fun g hg => h.fact g (hs g hg)⟩
theorem St.forget {w0 : World} {F0 : List Nat} {w : World} {L G : List Res} {g : Res} (h : St w0 F0 w L (g :: G)) : St w0 F0 w L G := h.facts (by simp +contextual)
theorem St.learn {w0 : World} {F0 : List Nat} {w : World} {L G : List Res} (h : St w0 F0 w L G) (g : Res) (hi : g.holds w) (hf : g.fp = []) : St w0 F0 w L (g :: G) :=
  ⟨h.os, h.tape, h.output, h.size, h.frame, h.own, h.nod, h.res, fun x hx => by
    rcases List.mem_cons.1 hx with rfl | hx
    · exact ⟨hi, fun b hb => by rw [hf] at hb; cases hb⟩
    · exact h.fact x hx⟩
theorem St.turn {w0 : World} {F0 : List Nat} {w : World} {L1 L2 L G : List Res} (h : St w0 F0 w (L1 ++ L) G)
    (own : ∀ b ∈ fps L2, b ∈ fps L1) (nod : (fps L2).Nodup) (res : ∀ r ∈ L2, r.holds w) : St w0 F0 w (L2 ++ L) G :=
  h.step rfl rfl rfl (Nat.le_refl _) (fun _ _ _ => rfl) (fun b hb => .inl (own b hb)) nod res
theorem St.turn1 {w0 : World} {F0 : List Nat} {w : World} {r s : Res} {L G : List Res} (h : St w0 F0 w (r :: L) G)
    (own : ∀ b ∈ s.fp, b ∈ r.fp) (nod : s.fp.Nodup) (res : r.holds w → s.holds w) : St w0 F0 w (s :: L) G :=
  St.turn (L1 := [r]) (L2 := [s]) h (by simpa using own) (by simpa using nod) (by simpa using res (h.res r (by simp)))
theorem St.drew {w0 : World} {F0 : List Nat} {w : World} {L G : List Res} (h : St w0 F0 w L G) : St w0 F0 w.drew L G :=
  St.step (L1 := []) (L2 := []) h rfl rfl rfl (Nat.le_refl _) (fun _ _ _ => rfl) (by simp) (by simp) (by simp)
theorem St.alloc {w0 : World} {F0 : List Nat} {w : World} {L G : List Res} (h : St w0 F0 w L G) (o : Obj) (r : Res) (hf : r.fp = [w.heap.size]) (hr : r.holds (w.alloc o)) :
    St w0 F0 (w.alloc o) (r :: L) G := by
  refine St.step (L1 := []) (L2 := [r]) h rfl rfl rfl (by simp) (fun b hb _ => Below.heap_alloc _ _ _ hb) ?_ (by simp [hf]) (by simpa using hr)
  intro b hb
  simp [hf] at hb
  subst hb
  exact .inr ⟨Nat.le_refl _, by simp⟩
def Aa (b : Nat) (cs : List Value) (e : TypeId) : Res where
  fp := [b]
  holds w := ∃ fr : Nat × Nat, w.heap[b]? = some (.cells cs.toArray e fr) ∧ (fr.1 = fr.2 ∨ cs.length ≤ fr.1)
  loc w w' h := by rintro ⟨fr, h1, h2⟩; exact ⟨fr, by rw [h b (by simp)]; exact h1, h2⟩
@[simp] theorem Bn1 (b : Nat) (cs : List Value) (e : TypeId) : (Aa b cs e).fp = [b] := rfl
theorem Ht (w : World) (cs : List Value) (e : TypeId) : (Aa w.heap.size cs e).holds (w.alloc (.cells cs.toArray e)) :=
  ⟨(0, 0), heap_alloc_new w _, .inl rfl⟩
theorem Fg {w : World} {b : Nat} {cs : List Value} {e : TypeId} (h : (Aa b cs e).holds w) (i : Nat) : w.cell? ⟨b, i, none⟩ = cs[i]? := by
  obtain ⟨fr, h1, h2⟩ := h
  simp [World.cell?, h1]
theorem An2 {w : World} {b : Nat} {cs : List Value} {e : TypeId} (h : (Aa b cs e).holds w) : b < w.heap.size := by
  obtain ⟨fr, h1, h2⟩ := h
  exact (Array.getElem?_eq_some_iff.1 h1).1
theorem St.cell {w0 : World} {F0 : List Nat} {w : World} {b : Nat} {cs : List Value} {e : TypeId} {L G : List Res} (h : St w0 F0 w L G) (hm : Aa b cs e ∈ L ∨ Aa b cs e ∈ G) (i : Nat) : w.cell? ⟨b, i, none⟩ = cs[i]? := by
  rcases hm with hm | hm
  · exact Fg (h.res _ hm) i
  · exact Fg (h.fact _ hm).1 i
def Sl (w : World) (v : Value) (n : Nat) (xs : List Value) : Prop :=
  ∃ A cap, v = .slice A n cap ∧ n ≤ cap ∧ (xs ≠ [] → ∃ ad, A = some ad ∧ ∀ j, j < xs.length → w.cell? (ad.add j) = xs[j]?)
def Ch : Value → List Nat
  | .slice (some a) _ _ => [a.block]
  | _ => []
def slR (v : Value) (n : Nat) (xs : List Value) : Res where
  fp := if xs = [] then [] else Ch v
  holds w := Sl w v n xs
  loc w w' h := by
    rintro ⟨A, cap, rfl, hn, h2⟩
    refine ⟨A, cap, rfl, hn, fun hx => ?_⟩
    obtain ⟨ad, rfl, h3⟩ := h2 hx
    refine ⟨ad, rfl, fun j hj => ?_⟩
    rw [← h3 j hj]
    have hb := h ad.block (by simp [hx, Ch])
    have e : (ad.add j).block = ad.block := by unfold Addr.add; split <;> rfl
    exact World.cell?_of_block (by rw [e]; exact hb)
def Rds (L G : List Res) (v : Value) (n : Nat) (xs : List Value) : Prop := ∃ r, (r ∈ L ∨ r ∈ G) ∧ ∀ w, r.holds w → Sl w v n xs
theorem Rds.sl {w0 : World} {F0 : List Nat} {w : World} {L G : List Res} {v : Value} {n : Nat} {xs : List Value} (h : Rds L G v n xs) (s : St w0 F0 w L G) : Sl w v n xs := by
  obtain ⟨r, hr, hi⟩ := h
  rcases hr with hr | hr
  · exact hi w (s.res r hr)
  · exact hi w (s.fact r hr).1
theorem Rds.mono {L G L' G' : List Res} {v : Value} {n : Nat} {xs : List Value} (h : Rds L G v n xs) (h1 : ∀ r ∈ L, r ∈ L' ∨ r ∈ G') (h2 : ∀ r ∈ G, r ∈ G') : Rds L' G' v n xs := by
  obtain ⟨r, hr, hi⟩ := h
  exact ⟨r, hr.elim (h1 r) (fun h => .inr (h2 r h)), hi⟩
theorem Rds.cons {L G : List Res} {v : Value} {n : Nat} {xs : List Value} (h : Rds L G v n xs) (r : Res) : Rds (r :: L) G v n xs := h.mono (fun s hs => .inl (by simp [hs])) (fun s hs => hs)
theorem Rds.consG {L G : List Res} {v : Value} {n : Nat} {xs : List Value} (h : Rds L G v n xs) (r : Res) : Rds L (r :: G) v n xs := h.mono (fun s hs => .inl hs) (fun s hs => by simp [hs])
theorem Rds.ofG {L G : List Res} {v : Value} {n : Nat} {xs : List Value} (h : slR v n xs ∈ G) : Rds L G v n xs := ⟨_, .inr h, fun _ h => h⟩
theorem Sl.nil (w : World) : Sl w (.slice none 0 0) 0 [] := ⟨none, 0, rfl, Nat.le_refl _, fun h => absurd rfl h⟩
theorem Sl.lt {w : World} {v : Value} {n : Nat} {xs : List Value} (h : Sl w v n xs) : ∀ b ∈ (slR v n xs).fp, b < w.heap.size := by
  intro b hb
  obtain ⟨A, cap, rfl, hcap, hA⟩ := h
  simp only [slR] at hb
  split at hb
  · cases hb
  · rename_i hx
    obtain ⟨ad, rfl, hc⟩ := hA hx
    have hl : 0 < xs.length := by cases xs; exact absurd rfl hx; simp
    have h0 := hc 0 hl
    rw [List.getElem?_eq_getElem hl] at h0
    have := World.block_lt_of_cell? w _ h0
    have e : (ad.add 0) = ad := by simp [Addr.add]
    rw [e] at this
    simp [Ch] at hb
    omega
theorem St.arg {w : World} {G : List Res} (h : St w [] w [] G) {v : Value} {n : Nat} {xs : List Value} (hs : Sl w v n xs) : St w [] w [] (slR v n xs :: G) :=
  ⟨h.os, h.tape, h.output, h.size, h.frame, h.own, h.nod, h.res, fun g hg => by
    rcases List.mem_cons.1 hg with rfl | hg
    · exact ⟨hs, fun b hb => ⟨hs.lt b hb, by simp⟩⟩
    · exact h.fact g hg⟩
theorem Sl.of_cells {w : World} {b : Nat} {cs : List Value} {e : TypeId} (h : (Aa b cs e).holds w) (n cap : Nat) (hn : n ≤ cap := by omega) : Sl w (.slice (some ⟨b, 0, none⟩) n cap) n cs :=
  ⟨_, cap, rfl, hn, fun _ => ⟨_, rfl, fun j hj => by
    have : (⟨b, 0, none⟩ : Addr).add j = ⟨b, j, none⟩ := by unfold Addr.add; split <;> simp_all
    rw [this, Fg h]⟩⟩
theorem Rds.cells {L G : List Res} {b : Nat} {cs : List Value} {e : TypeId} (h : Aa b cs e ∈ L ∨ Aa b cs e ∈ G) (n cap : Nat) (hn : n ≤ cap := by omega) : Rds L G (.slice (some ⟨b, 0, none⟩) n cap) n cs :=
  ⟨_, h, fun _ h => Sl.of_cells h n cap hn⟩
section
variable {P : Program} {ops : Array Oper} {Q : Exit → Act → World → Prop} {rest : List Oper} {K : Act → World → Prop} {o : Oper} {a : Act} {w0 w : World} {F0 : List Nat} {L G : List Res}
abbrev opK (P : Program) (ops : Array Oper) (Q : Exit → Act → World → Prop) (o : Oper) (K : Act → World → Prop) (a : Act) (w : World) : Prop :=
  if Region.wanted o (yielded ops a.tmps) = true then Oper.wp P o a w K Q else K (a.put o.dst undef) w
theorem F9 (h : opK P ops Q o (wpList P ops Q rest) a w) : wpList P ops Q (o :: rest) a w := by
  unfold wpList
  unfold opK at h
  split
  · rename_i hw; rw [if_pos hw] at h; exact .inl h
  · rename_i hw; rw [if_neg hw] at h; exact h
theorem wpl (hw : Region.wanted o (yielded ops a.tmps) = true) {v : Value} {w' : World} (hr : (execOp a.eval o).run P w = .ok (.value v) w')
    (k : K (a.put o.dst v) w') : opK P ops Q o K a w := by
  unfold opK
  rw [if_pos hw]
  unfold Oper.wp; rw [hr]; exact k
theorem S5 (hw : Region.wanted o (yielded ops a.tmps) = true) {w' : World} (hr : (execOp a.eval o).run P w = .ok .skip w')
    (k : K (a.put o.dst undef) w') : opK P ops Q o K a w := by
  unfold opK
  rw [if_pos hw]
  unfold Oper.wp; rw [hr]; exact k
theorem S4 (hw : Region.wanted o (yielded ops a.tmps) = true) {w' : World} {f : FuncId} {args : Array Value} (hr : (execOp a.eval o).run P w = .ok (.enter f args) w')
    {R : Ending → World → Prop} (hc : Calls P f args w' R) (k : ∀ e w'', R e w'' → ∃ v, e = .returned v ∧ K (a.put o.dst v) w'') : opK P ops Q o K a w := by
  unfold opK
  rw [if_pos hw]
  unfold Oper.wp; rw [hr]
  refine hc.mono fun e w'' h => ?_
  obtain ⟨v, rfl, h2⟩ := k e w'' h
  exact h2
theorem Ab {f : FuncId} {args args' : Array Value} {w : World} {R R' : Ending → World → Prop} (hc : Calls P f args' w R) (ha : args = args') (k : ∀ e w', R e w' → R' e w') : Calls P f args w R' := by
  subst ha
  exact hc.mono k
theorem Rds.ofCells (j : Nat) {b : Nat} {cs : List Value} {e : TypeId} (h : L[j]? = some (Aa b cs e)) (n cap : Nat) (hn : n ≤ cap := by omega) : Rds L G (.slice (some ⟨b, 0, none⟩) n cap) n cs := Rds.cells (.inl (List.mem_of_getElem? h)) n cap hn
theorem Rds.ofCellsG (j : Nat) {b : Nat} {cs : List Value} {e : TypeId} (h : G[j]? = some (Aa b cs e)) (n cap : Nat) (hn : n ≤ cap := by omega) : Rds L G (.slice (some ⟨b, 0, none⟩) n cap) n cs := Rds.cells (.inr (List.mem_of_getElem? h)) n cap hn
theorem Bt6 (hst : St w0 F0 w L G) (hw : Region.wanted o (yielded ops a.tmps) = true) {e : TypeId} {x : Operand} (ho : o.op = .box e x)
    (k : ∀ b w', St w0 F0 w' (Aa b (a.eval x).cells.toList e :: L) G → K (a.put o.dst (.pointer (some ⟨b, 0, none⟩))) w') : opK P ops Q o K a w := by
  refine wpl hw (v := .pointer (some ⟨w.heap.size, 0, none⟩)) (w' := w.alloc (.cells (a.eval x).cells e)) ?_ (k _ _ ?_)
  · simp [execOp, ho, Instr.box, newVar, newRow]
  · refine hst.alloc _ _ rfl ?_
    have := Ht w (a.eval x).cells.toList e
    simpa using this
theorem Be0 (hst : St w0 F0 w L G) (hw : Region.wanted o (yielded ops a.tmps) = true) {e : TypeId} (ho : o.op = .alloc e) {z : Value} (hz : ∀ w, (zeroValue e).run P w = .ok z w)
    (k : ∀ b w', St w0 F0 w' (Aa b z.cells.toList e :: L) G → K (a.put o.dst (.pointer (some ⟨b, 0, none⟩))) w') : opK P ops Q o K a w := by
  refine wpl hw (v := .pointer (some ⟨w.heap.size, 0, none⟩)) (w' := w.alloc (.cells z.cells e)) ?_ (k _ _ ?_)
  · simp [execOp, ho, Instr.alloc, newVar, newRow, hz]
  · refine hst.alloc _ _ rfl ?_
    have := Ht w z.cells.toList e
    simpa using this
def El (size len : Nat) (zero : Array Value) (parts : List (Nat × Value)) : Option (Array Value) :=
  Instr.fill (fun i => some (i * size, size)) ((Array.range (len * size)).map (zero[· % zero.size]!)) parts
theorem Ka (hst : St w0 F0 w L G) (hw : Region.wanted o (yielded ops a.tmps) = true) {t e : TypeId} {len size : Nat} {parts : Array (Nat × Operand)} (ho : o.op = .buildSlice t len parts)
    (ht : P.underlying t = some (.slice e)) (hs : ∀ w, (sizeOf e).run P w = .ok size w) {z : Value} (hz : ∀ w, (zeroValue e).run P w = .ok z w) (hl : len * size ≤ 16777216)
    {cs : List Value} (hc : El size len (if len * size = 0 then #[] else z.cells) (parts.toList.map fun x => (x.1, a.eval x.2)) = some cs.toArray)
    (k : ∀ b w', St w0 F0 w' (Aa b cs e :: L) G → K (a.put o.dst (.slice (some ⟨b, 0, none⟩) len len)) w') : opK P ops Q o K a w := by
  refine wpl hw (v := .slice (some ⟨w.heap.size, 0, none⟩) len len) (w' := w.alloc (.cells cs.toArray e)) ?_ (k _ _ ?_)
  · unfold El at hc
    have hl' : ¬ 16777216 < len * size := by omega
    by_cases h0 : len * size = 0
    · simp [h0] at hc
      simp [execOp, ho, Instr.buildSlice, run_underlying ht, hs, h0, hc, newRow]
    · simp only [h0, if_false] at hc
      simp [execOp, ho, Instr.buildSlice, run_underlying ht, hs, h0, hl', hz, hc, newRow]
  · exact hst.alloc _ _ rfl (Ht w cs e)
theorem Ao1 (vs : List Value) : ∀ (ws : List Value) (i : Nat), ws.length = vs.length → i ≤ vs.length → ((vs.drop i).zipIdx i).foldl (fun (cs : Array Value) (p : Value × Nat) => cs.setIfInBounds (0 + p.2) p.1) (vs.take i ++ ws.drop i).toArray = vs.toArray := by
  intro ws i hl
  generalize hd : vs.length - i = d
  induction d generalizing i with
  | zero =>
    intro hi
    have : i = vs.length := by omega
    subst this
    rw [List.drop_of_length_le (Nat.le_refl _), List.drop_of_length_le (by omega), List.take_length]
    simp
  | succ d ih =>
    intro hi
    have hlt : i < vs.length := by omega
    have hlt' : i < ws.length := by omega
    rw [List.drop_eq_getElem_cons hlt, List.zipIdx_cons, List.foldl_cons]
    have h2 : (vs.take i ++ ws.drop i).toArray.setIfInBounds (0 + i) vs[i] = (vs.take (i + 1) ++ ws.drop (i + 1)).toArray := by
      apply Array.ext'
      simp only [Array.toList_setIfInBounds, List.toList_toArray, Nat.zero_add]
      rw [List.set_append_right _ _ (by simp; omega)]
      rw [List.drop_eq_getElem_cons hlt', show i - (List.take i vs).length = 0 by simp; omega, List.set_cons_zero, List.take_succ_eq_append_getElem hlt, List.append_assoc]
      rfl
    rw [h2]
    exact ih (i + 1) (by omega) (by omega)
theorem V8 (z : Array Value) (v : Value) (zero : Array Value) : El v.cells.size 1 zero [(0, v)] = some v.cells := by
  unfold El
  simp only [Instr.fill, Nat.one_mul, Nat.zero_mul, Nat.zero_add]
  rw [if_neg (by simp)]
  congr 1
  have h := Ao1 v.cells.toList ((List.range v.cells.size).map (zero[· % zero.size]!)) 0 (by simp) (by simp)
  simp only [List.drop_zero, List.take_zero, List.nil_append] at h
  rw [← Array.foldl_toList, Array.toList_zipIdx]
  have hr : (List.map (fun x => zero[x % zero.size]!) (List.range v.cells.size)).toArray = Array.map (fun x => zero[x % zero.size]!) (Array.range v.cells.size) := by
    apply Array.ext'
    simp
  rw [hr] at h
  simpa using h
theorem Wo (hst : St w0 F0 w L G) (hw : Region.wanted o (yielded ops a.tmps) = true) {t e : TypeId} {x : Operand} (ho : o.op = .buildSlice t 1 #[(0, x)])
    (ht : P.underlying t = some (.slice e)) {v : Value} (hx : a.eval x = v) {n : Nat} (hs : ∀ w, (sizeOf e).run P w = .ok n w) (hv : v.cells.size = n) {z : Value} (hz : ∀ w, (zeroValue e).run P w = .ok z w) (hl : n ≤ 16777216)
    (k : ∀ b w', St w0 F0 w' (Aa b v.cells.toList e :: L) G → K (a.put o.dst (.slice (some ⟨b, 0, none⟩) 1 1)) w') : opK P ops Q o K a w := by
  subst hv
  refine Ka hst hw ho ht hs hz (by omega) (cs := v.cells.toList) ?_ k
  simp only [List.map_cons, List.map_nil, hx, Array.toArray_toList]
  exact V8 #[] v _
def idx : Nat → List Value → List (Nat × Value)
  | _, [] => []
  | k, v :: vs => (k, v) :: idx (k + 1) vs
def Om : List Value → Bool
  | [] => true
  | v :: vs => v.oneCell' && Om vs
theorem G9 {v : Value} (h : v.oneCell' = true) : v.cells = #[v] := by cases v <;> first | rfl | simp [Value.oneCell'] at h
theorem Q9 : ∀ (vs pre suf : List Value), Om vs = true → suf.length = vs.length →
    Instr.fill (fun i => some (i * 1, 1)) (pre ++ suf).toArray (idx pre.length vs) = some (pre ++ vs).toArray
  | [], pre, suf, _, h => by
    have : suf = [] := List.eq_nil_of_length_eq_zero (by simpa using h)
    subst this
    simp [idx, Instr.fill]
  | v :: vs, pre, [], _, h => by simp at h
  | v :: vs, pre, s :: suf, h1, h => by
    have hv : v.oneCell' = true ∧ Om vs = true := by simpa [Om] using h1
    have hc := G9 hv.1
    have ih := Q9 vs (pre ++ [v]) suf hv.2 (by simpa using h)
    simp only [idx, Instr.fill, hc, Nat.mul_one]
    rw [if_neg (by simp)]
    have e : (Array.foldl (fun (cs : Array Value) (x : Value × Nat) => cs.setIfInBounds (pre.length + x.snd) x.fst) (pre ++ s :: suf).toArray #[v].zipIdx) = (pre ++ [v] ++ suf).toArray := by
      simp
    simp only [List.length_append, List.length_cons, List.length_nil, Nat.zero_add, Nat.mul_one] at ih
    rw [e, ih]
    simp
theorem A35 (hst : St w0 F0 w L G) (hw : Region.wanted o (yielded ops a.tmps) = true) {t e : TypeId} {n : Nat} {parts : Array (Nat × Operand)} (ho : o.op = .buildSlice t n parts) {vs : List Value}
    (hp : parts.toList.map (fun x => (x.1, a.eval x.2)) = idx 0 vs) (h1 : Om vs = true) (hn : vs.length = n)
    (ht : P.underlying t = some (.slice e)) (hs : ∀ w, (sizeOf e).run P w = .ok 1 w) {z : Value} (hz : ∀ w, (zeroValue e).run P w = .ok z w) (hl : n ≤ 16777216)
    (k : ∀ b w', St w0 F0 w' (Aa b vs e :: L) G → K (a.put o.dst (.slice (some ⟨b, 0, none⟩) n n)) w') : opK P ops Q o K a w := by
  refine Ka hst hw ho ht hs hz (by omega) (cs := vs) ?_ k
  rw [hp]
  unfold El
  generalize (if n * 1 = 0 then #[] else z.cells) = zz
  have h := Q9 vs [] ((List.range (n * 1)).map (zz[· % zz.size]!)) h1 (by simp [hn])
  simp only [List.nil_append, List.length_nil] at h
  have hr : ((List.range (n * 1)).map (zz[· % zz.size]!)).toArray = (Array.range (n * 1)).map (zz[· % zz.size]!) := by
    apply Array.ext'
    simp
  rw [hr] at h
  exact h
theorem V1 : ∀ (l : List (Nat × Operand)) (f : Operand → Value) (k : Nat), (l.map (·.1) == (List.range' k l.length)) = true → l.map (fun x => (x.1, f x.2)) = idx k (l.map fun x => f x.2)
  | [], _, _, _ => rfl
  | (i, x) :: l, f, k, h => by
    simp [List.range'] at h
    have h2 := V1 l f (k + 1) (by simpa using h.2)
    simp [idx, h.1, h2]
theorem Be1 (hst : St w0 F0 w L G) (hw : Region.wanted o (yielded ops a.tmps) = true) {t e : TypeId} {n : Nat} {parts : Array (Nat × Operand)} (ho : o.op = .buildSlice t n parts)
    (hi : (parts.toList.map (·.1) == List.range' 0 parts.toList.length) = true) (hn : parts.toList.length = n) (ht : P.underlying t = some (.slice e)) (hs : ∀ w, (sizeOf e).run P w = .ok 1 w) {z : Value} (hz : ∀ w, (zeroValue e).run P w = .ok z w) (hl : n ≤ 16777216)
    {vs : List Value} (hp : (parts.toList.map fun x => a.eval x.2) = vs) (h1 : Om vs = true)
    (k : ∀ b w', St w0 F0 w' (Aa b vs e :: L) G → K (a.put o.dst (.slice (some ⟨b, 0, none⟩) n n)) w') : opK P ops Q o K a w :=
  A35 hst hw ho (by rw [V1 _ _ 0 hi, hp]) h1 (by rw [← hp, List.length_map]; exact hn) ht hs hz hl k
theorem C0 {t : TypeId} {ad : Addr} {v : Value} (hag : ∀ w, (isAgg t).run P w = .ok false w) (hc : w.cell? ad = some v) : (loadVar t ad).run P w = .ok v w := by
  simp [loadVar, hag, hc]
theorem Dp {t : TypeId} {ad : Addr} {n : Nat} {vs : List Value} (hag : ∀ w, (isAgg t).run P w = .ok true w) (hsz : ∀ w, (sizeOf t).run P w = .ok n w) (hn : vs.length = n)
    (hc : ∀ j v, vs[j]? = some v → w.cell? (ad.add j) = some v) : (loadVar t ad).run P w = .ok (.agg vs.toArray) w := by
  subst hn
  have := run_loadCells_list (P := P) w ad vs hc
  simp [loadVar, hag, hsz, this]
theorem B6 (b i j : Nat) : (⟨b, i, none⟩ : Addr).add j = ⟨b, i + j, none⟩ := by unfold Addr.add; split <;> simp_all
theorem I0 (g b0 : Nat) (t : TypeId) (fr : Nat × Nat) : ∀ (vs : List Value) (i : Nat) (cur : Array Value) (w : World), w.heap[g]? = some (.cells cur t fr) → (∀ j, j < cur.size → ¬ (fr.1 ≤ j ∧ j < fr.2)) → b0 + i + vs.length ≤ cur.size → (∀ v ∈ vs, v.oneCell' = true) →
    (storeCells ⟨g, b0, none⟩ vs i).run P w = .ok () (w.setRow g (cur.toList.take (b0 + i) ++ vs ++ cur.toList.drop (b0 + i + vs.length)).toArray)
  | [], i, cur, w, hg, _, _, _ => by
    simp only [storeCells, List.append_nil, List.length_nil, Nat.add_zero, List.take_append_drop, Array.toArray_toList]
    rw [setRow_self w g cur t fr hg]
    rfl
  | v :: rest, i, cur, w, hg, hfr, hl, h1 => by
    have hi : b0 + i < cur.size := by simp at hl; omega
    have hcell : w.cell? ⟨g, b0 + i, none⟩ = some cur[b0 + i] := by simp [World.cell?, hg, hi]
    have hfro : w.frozen? ⟨g, b0 + i, none⟩ = false := by
      have := hfr (b0 + i) hi
      simp only [World.frozen?, hg]
      simpa using this
    have hst : (store ((⟨g, b0, none⟩ : Addr).add i) v).run P w = .ok () (w.setRow g (cur.setIfInBounds (b0 + i) v)) := by
      rw [B6, run_store P w _ v _ (h1 v (by simp)), hcell]
      simp [hfro, setCell_eq_setRow w g (b0 + i) cur t fr v hg]
    have ih := I0 g b0 t fr rest (i + 1) (cur.setIfInBounds (b0 + i) v) (w.setRow g (cur.setIfInBounds (b0 + i) v)) (setRow_heap w g cur _ t _ hg) (by simpa using hfr) (by simp at hl ⊢; omega) (fun x hx => h1 x (by simp [hx]))
    simp only [storeCells, Sem.run_bind, hst, Result.andThen_ok, ih, setRow_setRow]
    congr 3
    have e := list_seg_step cur.toList (b0 + i) v rest (by simp at hl ⊢; omega)
    simpa [Array.toList_setIfInBounds, Nat.add_assoc] using e
def splice (cs : List Value) (i : Nat) (vs : List Value) : List Value := cs.take i ++ vs ++ cs.drop (i + vs.length)
theorem Gd (cs : List Value) (i : Nat) (vs : List Value) (h : i + vs.length ≤ cs.length) : (splice cs i vs).length = cs.length := by simp [splice]; omega
theorem Af0 (cs : List Value) (i : Nat) (v : Value) (h : i < cs.length) : splice cs i [v] = cs.set i v := by
  unfold splice
  rw [List.set_eq_take_append_cons_drop, if_pos h]
  simp
theorem St.splice {b : Nat} {cs : List Value} {e : TypeId} (h : St w0 F0 w (Aa b cs e :: L) G) (i : Nat) (vs : List Value) (hi : i + vs.length ≤ cs.length) :
    St w0 F0 (w.setRow b (Go.Proofs.YtaanjifekgfemaaGreat.K.splice cs i vs).toArray) (Aa b (Go.Proofs.YtaanjifekgfemaaGreat.K.splice cs i vs) e :: L) G := by
  obtain ⟨fr, h1, h2⟩ := h.res (Aa b cs e) (by simp)
  refine St.step (L1 := [Aa b cs e]) (L2 := [Aa b (Go.Proofs.YtaanjifekgfemaaGreat.K.splice cs i vs) e]) h rfl rfl rfl (by simp) ?_ (by simp) (by simp) ?_
  · intro k hk hn
    exact setRow_other _ _ _ _ (by simpa using hn)
  · intro r hr
    simp at hr
    subst hr
    exact ⟨fr, setRow_heap _ _ _ _ _ _ h1, by rw [Gd _ _ _ hi]; exact h2⟩
theorem Fv {b : Nat} {cs : List Value} {e : TypeId} (h : (Aa b cs e).holds w) (i : Nat) (vs : List Value) (hi : i + vs.length ≤ cs.length) (h1 : ∀ v ∈ vs, v.oneCell' = true) :
    (storeCells ⟨b, i, none⟩ vs).run P w = .ok () (w.setRow b (splice cs i vs).toArray) := by
  obtain ⟨fr, h2, h3⟩ := h
  have := I0 (P := P) b i e fr vs 0 cs.toArray w h2 (by simp only [List.size_toArray]; omega) (by simpa using hi) h1
  simpa [splice] using this
theorem Hg {L : List Res} {j : Nat} {r : Res} (h : L[j]? = some r) : L.Perm (r :: L.eraseIdx j) := by
  have hj : j < L.length := by rcases Nat.lt_or_ge j L.length with h1 | h1; exact h1; rw [List.getElem?_eq_none h1] at h; cases h
  rw [List.getElem?_eq_getElem hj] at h
  injection h with h
  rw [List.eraseIdx_eq_take_drop_succ]
  have h2 : L = L.take j ++ L[j] :: L.drop (j + 1) := by rw [← List.drop_eq_getElem_cons hj, List.take_append_drop]
  rw [h] at h2
  exact (List.Perm.of_eq h2).trans List.perm_middle
theorem Gp {L : List Res} {j : Nat} {r s : Res} (h : L[j]? = some r) : (s :: L.eraseIdx j).Perm (L.set j s) := by
  have hj : j < L.length := by rcases Nat.lt_or_ge j L.length with h1 | h1; exact h1; rw [List.getElem?_eq_none h1] at h; cases h
  have h2 : (L.set j s)[j]? = some s := by simp [hj]
  have := Hg h2
  rw [List.eraseIdx_set_eq] at this
  exact this.symm
theorem St.splice_at {b : Nat} {cs : List Value} {e : TypeId} (h : St w0 F0 w L G) {j : Nat} (hL : L[j]? = some (Aa b cs e)) (i : Nat) (vs : List Value) (hi : i + vs.length ≤ cs.length) :
    St w0 F0 (w.setRow b (Go.Proofs.YtaanjifekgfemaaGreat.K.splice cs i vs).toArray) (L.set j (Aa b (Go.Proofs.YtaanjifekgfemaaGreat.K.splice cs i vs) e)) G :=
  ((h.perm (Hg hL)).splice i vs hi).perm (Gp hL)
theorem Ak5 (hst : St w0 F0 w L G) (j : Nat) (hw : Region.wanted o (yielded ops a.tmps) = true) {t : TypeId} {x y : Operand} (ho : o.op = .store t x y) {b i : Nat} (hx : a.eval x = .pointer (some ⟨b, i, none⟩))
    {cs : List Value} {e : TypeId} (hL : L[j]? = some (Aa b cs e)) {v : Value} (hy : a.eval y = v) (hsz : ∀ w, (sizeOf t).run P w = .ok v.cells.size w) (hi : i + v.cells.size ≤ cs.length) (h1 : ∀ u ∈ v.cells.toList, u.oneCell' = true)
    (k : ∀ w', St w0 F0 w' (L.set j (Aa b (splice cs i v.cells.toList) e)) G → K (a.put o.dst undef) w') : opK P ops Q o K a w := by
  have hh : (Aa b cs e).holds w := hst.res _ (List.mem_of_getElem? hL)
  have hr := Fv (P := P) hh i v.cells.toList (by simpa using hi) h1
  refine S5 hw (w' := w.setRow b (splice cs i v.cells.toList).toArray) ?_ (k _ (hst.splice_at hL i _ (by simpa using hi)))
  simp [execOp, ho, Instr.storeAt, Instr.sureAddr, hx, hy, storeVar, hsz, hr]
end
def Ctx (w0 : World) (F0 : List Nat) (L G : List Res) : World → Prop := fun w => ∃ L' G', St w0 F0 w (L' ++ L) (G' ++ G)
section
variable {P : Program} {ops : Array Oper} {o : Oper} {a : Act} {w0 : World} {F0 : List Nat} {L G : List Res}
theorem Ctx.cell {w : World} (h : Ctx w0 F0 L G w) {b : Nat} {cs : List Value} {e : TypeId} (hm : Aa b cs e ∈ L ∨ Aa b cs e ∈ G) (i : Nat) : w.cell? ⟨b, i, none⟩ = cs[i]? := by
  obtain ⟨L', G', hst⟩ := h
  exact hst.cell (hm.imp (fun h => List.mem_append.2 (.inr h)) (fun h => List.mem_append.2 (.inr h))) i
end
def bv (x : UInt8) : Value := .int .u8 (x.toNat : Int)
def bvs (l : List UInt8) : List Value := l.map bv
@[simp] theorem Ao (l : List UInt8) : (bvs l).length = l.length := by simp [bvs]
theorem Bn9 {l : List UInt8} {k : Nat} (h : k < l.length) : (bvs l)[k]? = some (bv l[k]) := by simp [bvs, List.getElem?_eq_getElem h]
theorem Qv (l m : List UInt8) : bvs (l ++ m) = bvs l ++ bvs m := by simp [bvs]
theorem Qw (l : List UInt8) : ∀ v ∈ bvs l, v.oneCell' = true := by
  intro v hv
  simp only [bvs, List.mem_map] at hv
  obtain ⟨x, _, rfl⟩ := hv
  rfl
def sb (s : ByteArray) : List UInt8 := s.data.toList
@[simp] theorem Bn2 (s : ByteArray) : (sb s).length = s.size := by simp [sb]
def str (l : List UInt8) : ByteArray := ⟨l.toArray⟩
@[simp] theorem Bwz (l : List UInt8) : sb (str l) = l := rfl
@[simp] theorem Bx1 (s : ByteArray) : str (sb s) = s := by cases s; simp [str, sb]
@[simp] theorem Bt8 (l : List UInt8) : (str l).size = l.length := rfl
section
variable {P : Program} {ops : Array Oper} {Q : Exit → Act → World → Prop} {rest : List Oper} {K : Act → World → Prop} {o : Oper} {a : Act} {w0 w : World} {F0 : List Nat} {L G : List Res}
theorem Be8 {src e : TypeId} (hs : P.underlying src = some (.slice e)) (he : P.underlying e = some (.int .u8)) {v : Value} {l : List UInt8} (h : Sl w v l.length (bvs l)) {dst : TypeId} (hd : P.underlying dst = some .string) :
    (convert src dst v).run P w = .ok (.string (str l)) w := by
  obtain ⟨A, cap, rfl, hcap, hA⟩ := h
  by_cases hl : l = []
  · subst hl
    rw [run_convert_bytes_string w src dst e _ _ cap hs he hd]
    cases A with
    | none => simp [Conv.bytesToString]; rfl
    | some ad => simp [Conv.bytesToString, loadCells, loadCellsFrom]; rfl
  · obtain ⟨ad, rfl, hc⟩ := hA (by intro h; apply hl; have := congrArg List.length h; rw [Ao] at this; exact List.eq_nil_of_length_eq_zero this)
    have hl2 : (loadCells ad l.length).run P w = .ok ((l.map fun x => (x.toNat : Int)).map (Value.int .u8)).toArray w := by
      have h1 := run_loadCells_list (P := P) w ad (bvs l) (fun j u hj => by
        have hjl : j < (bvs l).length := by
          rcases Nat.lt_or_ge j (bvs l).length with h | h
          · exact h
          · rw [List.getElem?_eq_none h] at hj; cases hj
        rw [hc j hjl, hj])
      rw [Ao] at h1
      rw [h1]
      congr 2
      simp [bvs, bv]
    rw [run_convert_bytes_string w src dst e _ _ cap hs he hd, run_bytesToString w _ _ cap _ hl2, foldl_push_bytes]
    congr 2
    simp only [str, List.map_map]
    congr 1
    have : (fun n : Int => UInt8.ofNat n.toNat) ∘ (fun x : UInt8 => (x.toNat : Int)) = id := by
      funext x
      simp
    rw [this]
    simp [ByteArray.empty, ByteArray.emptyWithCapacity]
    rfl
end
theorem C2 (v : Value) : ∀ b, b ∈ Ch v ↔ v.ownBlock = some b := by
  intro b
  cases v <;> simp [Ch, Value.ownBlock]
  rename_i a l c
  cases a <;> simp [Ch]
  exact eq_comm
def Af (v : Value) (e : TypeId) (size n : Nat) (xs : List Value) : Res where
  fp := Ch v
  holds w := w.ownsRow 0 e size v n xs
  loc w w' h := by
    rintro ⟨h1, h2⟩
    refine ⟨h1, ?_⟩
    rcases h2 with h2 | ⟨g, cap, cur, rfl, hb, hg, r⟩
    · exact .inl h2
    · exact .inr ⟨g, cap, cur, rfl, hb, by rw [h g (by simp [Ch])]; exact hg, r⟩
@[simp] theorem Btz (v : Value) (e : TypeId) (size n : Nat) (xs : List Value) : (Af v e size n xs).fp = Ch v := rfl
theorem Za (w : World) (e : TypeId) (size : Nat) : (Af (.slice none 0 0) e size 0 []).holds w := World.ownsRow_nil w 0 e size
theorem C5 {w : World} {v : Value} {e : TypeId} {size n : Nat} {xs : List Value} (h : (Af v e size n xs).holds w) : ∃ A cap, v = .slice A n cap ∧ n ≤ cap := by
  rcases h.2 with ⟨rfl, rfl⟩ | ⟨g, cap, cur, rfl, _, _, hn, _⟩
  · exact ⟨none, 0, rfl, Nat.le_refl _⟩
  · exact ⟨_, cap, rfl, hn⟩
theorem Be7 {w : World} {v : Value} {e : TypeId} {size n : Nat} {xs : List Value} (h : (Af v e size n xs).holds w) : Sl w v n xs := by
  have h' : w.ownsRow 0 e size v n xs := h
  rcases h'.2 with ⟨rfl, rfl⟩ | ⟨g, cap, cur, rfl, hb, hg, r⟩
  · have : xs = [] := List.eq_nil_of_length_eq_zero (by simpa using h'.1)
    subst this
    exact Sl.nil w
  · refine ⟨_, cap, rfl, r.1, fun _ => ⟨_, rfl, fun j hj => ?_⟩⟩
    have hc := h'.cells (g := g) rfl j xs[j] (by rw [List.getElem?_eq_getElem hj])
    rw [hc, List.getElem?_eq_getElem hj]
theorem Rds.row {L G : List Res} {v : Value} {e : TypeId} {size n : Nat} {xs : List Value} (h : Af v e size n xs ∈ L ∨ Af v e size n xs ∈ G) : Rds L G v n xs := ⟨_, h, fun _ h => Be7 h⟩
theorem Rds.rowL {L G : List Res} (j : Nat) {v : Value} {e : TypeId} {size n : Nat} {xs : List Value} (h : L[j]? = some (Af v e size n xs)) : Rds L G v n xs := Rds.row (.inl (List.mem_of_getElem? h))
theorem Rds.rowG {L G : List Res} (j : Nat) {v : Value} {e : TypeId} {size n : Nat} {xs : List Value} (h : G[j]? = some (Af v e size n xs)) : Rds L G v n xs := Rds.row (.inr (List.mem_of_getElem? h))
section
variable {P : Program} {ops : Array Oper} {Q : Exit → Act → World → Prop} {rest : List Oper} {K : Act → World → Prop} {o : Oper} {a : Act} {w0 w : World} {F0 : List Nat} {L G : List Res}
theorem Y6 (hst : St w0 F0 w L G) (hw : Region.wanted o (yielded ops a.tmps) = true) {t e : TypeId} (ho : o.op = .buildSlice t 0 #[])
    (ht : P.underlying t = some (.slice e)) {size : Nat} (hs : ∀ w, (sizeOf e).run P w = .ok size w)
    (k : ∀ v w', St w0 F0 w' (Af v e size 0 [] :: L) G → (∃ b, v = .slice (some ⟨b, 0, none⟩) 0 0) → K (a.put o.dst v) w') : opK P ops Q o K a w := by
  refine wpl hw (v := .slice (some ⟨w.heap.size, 0, none⟩) 0 0) (w' := w.alloc (.cells #[] e)) ?_ (k _ _ ?_ ⟨_, rfl⟩)
  · simp [execOp, ho, Instr.buildSlice, run_underlying ht, hs, newRow, Instr.fill, Array.range_zero']
  · refine hst.alloc _ _ rfl ?_
    exact ⟨by simp, .inr ⟨w.heap.size, 0, #[], rfl, Nat.zero_le _, heap_alloc_new w _, Nat.le_refl _, Nat.zero_le _, by simp, by simp⟩⟩
theorem Bm6 (hst : St w0 F0 w L G) (hw : Region.wanted o (yielded ops a.tmps) = true) {t e : TypeId} {x y : Operand} (ho : o.op = .makeSlice t x y)
    (ht : P.underlying t = some (.slice e)) {z : Value} {bytes : Nat} (hinfo : (P.info? e).map (fun i => (i.zero, i.size, i.bytes)) = some (some z, 1, bytes)) (hz1 : z.cells = #[z]) {n : Nat}
    (hx : a.eval x = .int .i64 (n : Int)) (hy : a.eval y = .int .i64 (n : Int)) (hb : bytes * n ≤ 281474976710656) (h63 : n ≤ 9223372036854775807)
    (k : ∀ b w', St w0 F0 w' (Aa b (List.replicate n z) e :: L) G → K (a.put o.dst (.slice (some ⟨b, 0, none⟩) n n)) w') : opK P ops Q o K a w := by
  have hr := run_make_row' (P := P) t e z bytes ht hinfo hz1 .i64 .i64 n hb h63 w
  refine wpl hw (v := .slice (some ⟨w.heap.size, 0, none⟩) n n) (w' := w.alloc (.cells (madeCells #[z] n) e)) ?_ (k _ _ ?_)
  · simp [execOp, ho, hx, hy, hr]
  · refine hst.alloc _ _ rfl ?_
    have h1 := Ht w (List.replicate n z) e
    have h2 : (List.replicate n z).toArray = madeCells #[z] n := by
      apply Array.ext'
      rw [toList_madeCells_one]
    rwa [h2] at h1
theorem As2 (hst : St w0 F0 w L G) (j : Nat) (hw : Region.wanted o (yielded ops a.tmps) = true) {t : TypeId} {x y : Operand} (ho : o.op = .store t x y) {b i : Nat} (hx : a.eval x = .pointer (some ⟨b, i, none⟩))
    {cs : List Value} {e : TypeId} (hL : L[j]? = some (Aa b cs e)) {v : Value} (hy : a.eval y = v) (hsz : ∀ w, (sizeOf t).run P w = .ok 1 w) (h1 : v.oneCell' = true) (hi : i < cs.length)
    (k : ∀ w', St w0 F0 w' (L.set j (Aa b (cs.set i v) e)) G → K (a.put o.dst undef) w') : opK P ops Q o K a w := by
  have hc := G9 h1
  refine Ak5 hst j hw ho hx hL hy (by rw [hc]; exact hsz) (by rw [hc]; simp; omega) (by rw [hc]; simpa using h1) ?_
  intro w' h
  rw [hc] at h
  have e1 : (#[v] : Array Value).toList = [v] := rfl
  rw [e1, Af0 cs i v hi] at h
  exact k w' h
theorem Iz {size n : Nat} {v : Value} {xs : List Value} (h : Sl w v n xs) (hl : xs.length = n * size) : (Builtin.firstCells size n v).run P w = .ok xs.toArray w := by
  obtain ⟨A, cap, rfl, hcap, hA⟩ := h
  by_cases hx : xs = []
  · subst hx
    cases A with
    | none => simp [Builtin.firstCells]
    | some ad =>
      have : n * size = 0 := by simpa using hl.symm
      simp [Builtin.firstCells, this, loadCells, loadCellsFrom]
  · obtain ⟨ad, rfl, hc⟩ := hA hx
    exact run_firstCells_some w size n ad n cap xs hl (fun j u hu => by
      have hj : j < xs.length := by
        rcases Nat.lt_or_ge j xs.length with h | h
        · exact h
        · rw [List.getElem?_eq_none h] at hu; cases hu
      rw [hc j hj, hu])
theorem Y5 (hst : St w0 F0 w L G) (j : Nat) (hw : Region.wanted o (yielded ops a.tmps) = true) {t e : TypeId} {s x : Operand} (ho : o.op = .call { callee := .builtin .append, args := #[s, x], argTypes := #[t, t] })
    (ht : P.underlying t = some (.slice e)) {z : Value} {size bytes : Nat} (hinfo : (P.info? e).map (fun i => (i.zero, i.size, i.bytes)) = some (some z, size, bytes)) (hzs : z.cells.size = size) (hsz : 0 < size)
    {v : Value} {n : Nat} {xs : List Value} (hs : a.eval s = v) (hL : L[j]? = some (Af v e size n xs)) {u : Value} {m : Nat} {news : List Value} (hx : a.eval x = u) (hr : Rds L G u m news) (hl : news.length = m * size) (h1 : ∀ u ∈ news, u.oneCell' = true)
    (h63 : n + m ≤ maxLen) (hbytes : (n + m) * bytes ≤ 140737488355328)
    (k : ∀ v' w', St w0 F0 w' (L.set j (Af v' e size (n + m) (xs ++ news))) G → (m = 0 → v' = v) → K (a.put o.dst v') w') : opK P ops Q o K a w := by
  obtain ⟨i0, hi, hzz⟩ := Option.map_eq_some_iff.1 hinfo
  simp only [Prod.mk.injEq] at hzz
  obtain ⟨hz0, hz1, hz2⟩ := hzz
  have hown : w.ownsRow 0 e size v n xs := hst.res _ (List.mem_of_getElem? hL)
  have hp := hst.perm (Hg hL)
  obtain ⟨A, cap, rfl, hcap, hA⟩ := hr.sl hst
  by_cases hm : m = 0
  · subst hm
    have hn0 : news = [] := List.eq_nil_of_length_eq_zero (by simpa using hl)
    subst hn0
    have hrun : (Builtin.append_ #[t, t] o.type #[v, .slice A 0 cap]).run P w = .ok v w := by
      have hf := Iz (P := P) (size := size) (n := 0) (hr.sl hst) (by simp)
      obtain ⟨A2, cap2, rfl, hcap⟩ := C5 (w := w) (v := v) (e := e) (size := size) (n := n) (xs := xs) hown
      cases A2 with
      | none => simp [Builtin.append_, run_underlying ht, sizeOf, typeInfo, hi, hz1, Builtin.lenOf, hcap, hf, storeCells]
      | some ad => simp [Builtin.append_, run_underlying ht, sizeOf, typeInfo, hi, hz1, Builtin.lenOf, hcap, hf, storeCells]
    refine wpl hw (v := v) (w' := w) ?_ (k _ _ ?_ (fun _ => rfl))
    · simp [execOp, ho, resolve, invoke, builtin, hs, hx, hrun]
    · have := (St.turn1 (s := Af v e size (n + 0) (xs ++ [])) hp (by simp) (by have := hp.nod; simp [List.nodup_append] at this; exact this.1) (by simp [Af])).perm (Gp hL)
      exact this
  · have hne : news ≠ [] := by intro h; rw [h] at hl; have : 0 < m * size := Nat.mul_pos (by omega) hsz; simp at hl; omega
    obtain ⟨ad, rfl, hc⟩ := hA hne
    obtain ⟨v', w', hrun, hown', hg, _, hat⟩ := run_append_own_at (P := P) w 0 t o.type e i0 z size bytes ht hi hz0 hz1 hz2 hzs hsz v n xs hown ad m cap news hl (fun j u hu => by
      have hj : j < news.length := by
        rcases Nat.lt_or_ge j news.length with h | h
        · exact h
        · rw [List.getElem?_eq_none h] at hu; cases hu
      rw [hc j hj, hu]) h1 h63 hbytes (Nat.zero_le _)
    refine wpl hw (v := v') (w' := w') ?_ (k _ _ ?_ (fun h => absurd h hm))
    · simp [execOp, ho, resolve, invoke, builtin, hs, hx, hrun]
    · refine (St.step (L1 := [Af v e size n xs]) (L2 := [Af v' e size (n + m) (xs ++ news)]) hp hg.os hg.tape hg.output hg.size ?_ ?_ ?_ (by intro r hr; simp at hr; subst hr; exact hown')).perm (Gp hL)
      · intro b hb hn
        refine hg.block b hb (fun h => hn ?_)
        simp [(C2 v b).2 h.symm]
      · intro b hb
        simp at hb
        have hb' := (C2 v' b).1 hb
        rcases hat with hat | hat
        · left
          simp [(C2 v b).2 (by rw [← hat]; exact hb')]
        · right
          rw [hat] at hb'
          injection hb' with hb'
          subst hb'
          refine ⟨Nat.le_refl _, ?_⟩
          have hl := World.ownsRow.lt hown' _ hat
          exact hl.2
      · rcases C5 (w := w') (v := v') (e := e) (size := size) hown' with ⟨A, c, rfl, _⟩
        cases A <;> simp [Ch]
theorem Ae5 (hst : St w0 F0 w L G) (j : Nat) (hw : Region.wanted o (yielded ops a.tmps) = true) {t e : TypeId} {s x : Operand} (ho : o.op = .call { callee := .builtin .copy, args := #[s, x], argTypes := #[t, t] })
    (ht : P.underlying t = some (.slice e)) {size : Nat} (hs1 : ∀ w, (sizeOf e).run P w = .ok size w) {b off n c : Nat} (hs : a.eval s = .slice (some ⟨b, off, none⟩) n c) {cs : List Value} {e' : TypeId} (hL : L[j]? = some (Aa b cs e'))
    {u : Value} {m : Nat} {xs : List Value} (hx : a.eval x = u) (hr : Rds L G u m xs) (hl : xs.length = m * size) (h1 : ∀ u ∈ xs, u.oneCell' = true) (hmn : m ≤ n) (hfit : off + xs.length ≤ cs.length)
    (k : ∀ w', St w0 F0 w' (L.set j (Aa b (splice cs off xs) e')) G → K (a.put o.dst (.int .i64 (m : Int))) w') : opK P ops Q o K a w := by
  have hsl := hr.sl hst
  have hf := Iz (P := P) (size := size) (n := m) hsl hl
  obtain ⟨A, cap, rfl, hcap, hA⟩ := hsl
  have hh : (Aa b cs e').holds w := hst.res _ (List.mem_of_getElem? hL)
  have hrun := Fv (P := P) hh off xs hfit h1
  have hmin : Nat.min m n = m := Nat.min_eq_left hmn
  refine wpl hw (v := .int .i64 (m : Int)) (w' := w.setRow b (splice cs off xs).toArray) ?_ (k _ (hst.splice_at hL off xs hfit))
  simp [execOp, ho, resolve, invoke, builtin, hs, hx, Builtin.copy_, run_underlying ht, Builtin.lenOf, hmin, hs1, hf, hrun, goInt]
end
structure Told where
  op : Nat
  dst : Tmp
  is : Value → List Res → Prop
  mono : ∀ v G G', (∀ g ∈ G, g ∈ G') → is v G → is v G'
def Told.val (op : Nat) (dst : Tmp) (v : Value) : Told := ⟨op, dst, fun u _ => u = v, fun _ _ _ _ h => h⟩
structure RInv (fs : List Told) (a0 : Act) (w0 : World) (F0 : List Nat) (L G : List Res) (listed : Array Bool) (a : Act) (w : World) : Prop where
  defers : a.defers = a0.defers
  size : a.tmps.size = a0.tmps.size
  base : ∀ t, (∀ x ∈ fs, x.dst ≠ t) → a.eval (.tmp t) = a0.eval (.tmp t)
  st : ∃ G', St w0 F0 w L (G' ++ G) ∧ ∀ x ∈ fs, listed.getD x.op false = true → x.is (a.eval (.tmp x.dst)) (G' ++ G)
section
variable {P : Program} {Q : Exit → Act → World → Prop} {md : Region.Mode} {l : List Oper} {fs : List Told} {a0 : Act} {w0 : World} {F0 : List Nat} {L G : List Res}
theorem Tc (a : Act) (d : Nat) (v : Value) (h : d < a.tmps.size) : (a.put (some d) v).eval (.tmp d) = v := by simp [Act.put, Act.eval, Array.getD, h]
theorem O4 (a : Act) (d j : Nat) (v : Value) (h : d ≠ j) : (a.put (some d) v).eval (.tmp j) = a.eval (.tmp j) := by
  simp only [Act.put, Act.eval, Array.getD_eq_getD_getElem?]
  rw [Array.getElem?_setIfInBounds_ne h]
theorem Gj (listed : Array Bool) (i j : Nat) (h : (listed.setIfInBounds i true).getD j false = true) : j = i ∨ listed.getD j false = true := by
  by_cases e : i = j
  · exact .inl e.symm
  · right
    rw [Array.getD_eq_getD_getElem?, Array.getElem?_setIfInBounds_ne e] at h
    rwa [Array.getD_eq_getD_getElem?]
theorem RInv.put {listed : Array Bool} {a : Act} {w' : World} {G' G'' : List Res} (h1 : a.defers = a0.defers) (h2 : a.tmps.size = a0.tmps.size) (h3 : ∀ t, (∀ x ∈ fs, x.dst ≠ t) → a.eval (.tmp t) = a0.eval (.tmp t))
    (h4 : ∀ x ∈ fs, listed.getD x.op false = true → x.is (a.eval (.tmp x.dst)) (G' ++ G)) (hG : ∀ g ∈ G' ++ G, g ∈ G'' ++ G) (hst : St w0 F0 w' L (G'' ++ G))
    (i d : Nat) (v : Value) (hd : d < a0.tmps.size) (hu : ∀ x ∈ fs, x.op = i ∧ x.dst = d ∨ x.op ≠ i ∧ x.dst ≠ d) (hin : ∃ x ∈ fs, x.dst = d) (hv : ∀ x ∈ fs, x.op = i → x.is v (G'' ++ G)) :
    RInv fs a0 w0 F0 L G (listed.setIfInBounds i true) (a.put (some d) v) w' := by
  refine ⟨h1, by simp [Act.put, h2], fun t ht => ?_, G'', hst, fun x hx hl => ?_⟩
  · obtain ⟨x, hx, rfl⟩ := hin
    rw [O4 _ _ _ _ (ht x hx)]
    exact h3 t ht
  · rcases hu x hx with ⟨e1, e2⟩ | ⟨e1, e2⟩
    · rw [e2, Tc _ _ _ (by rw [h2]; exact hd)]
      exact hv x hx e1
    · rw [O4 _ _ _ _ (fun h => e2 h.symm)]
      rcases Gj _ _ _ hl with h | h
      · exact absurd h e1
      · exact x.mono _ _ _ hG (h4 x hx h)
def Obs (Ob : Nat → Oper → Prop) : Nat → List Oper → Prop
  | _, [] => True
  | k, o :: l => Ob k o ∧ Obs Ob (k + 1) l
theorem Obs.get {Ob : Nat → Oper → Prop} {l : List Oper} : ∀ {k : Nat} (h : Obs Ob k l) (i : Nat) (o : Oper), l[i]? = some o → Ob (k + i) o := by
  induction l with
  | nil => intro k h i o e; cases i <;> cases e
  | cons o l ih =>
    intro k h i o' e
    obtain ⟨h1, h2⟩ := h
    cases i with
    | zero =>
      rw [List.getElem?_cons_zero] at e
      injection e with e
      rw [← e]
      exact h1
    | succ i =>
      rw [List.getElem?_cons_succ] at e
      have := ih h2 i o' e
      rwa [show k + (i + 1) = k + 1 + i by omega]
def Ob (P : Program) (Q : Exit → Act → World → Prop) (md : Region.Mode) (l : List Oper) (fs : List Told) (a0 : Act) (w0 : World) (F0 : List Nat) (L G : List Res) (listed0 : Array Bool) (i : Nat) (o : Oper) : Prop :=
  ∀ (listed : Array Bool) (a : Act) (w : World), listed.getD i true = false → (∀ j, listed0.getD j false = true → listed.getD j false = true) →
    (∀ e ∈ o.after, Region.binds md e = true → listed.getD e.on false = true) → RInv fs a0 w0 F0 L G listed a w →
    opK P l.toArray Q o (fun a' w' => RInv fs a0 w0 F0 L G (listed.setIfInBounds i true) a' w') a w
theorem Ob.skip {listed0 : Array Bool} {i : Nat} {o : Oper} (h : listed0.getD i false = true) : Ob P Q md l fs a0 w0 F0 L G listed0 i o := by
  intro listed a w h1 h2 _ _
  have := h2 i h
  rcases Nat.lt_or_ge i listed.size with hi | hi
  · simp [Array.getD, hi] at h1 this
    rw [h1] at this
    cases this
  · have hn : ¬ i < listed.size := by omega
    simp [Array.getD, hn] at h1
end
abbrev Env := Nat → Value
def upd (ρ : Env) (d : Nat) (v : Value) : Env := fun t => match Nat.beq t d with | true => v | false => ρ t
def nth : List Value → Nat → Value
  | [], _ => undef
  | v :: _, 0 => v
  | _ :: l, n + 1 => nth l n
def env (vs : List Value) : Env := fun t => nth vs t
def upds (ρ : Env) : List (Nat × Value) → Env
  | [] => ρ
  | p :: l => upd (upds ρ l) p.1 p.2
def Agr (ρ : Env) : List (Nat × Value) → Prop
  | [] => True
  | p :: l => ρ p.1 = p.2 ∧ Agr ρ l
def ev (ρ : Env) : Operand → Value
  | .tmp t => ρ t
  | .const v => v
  | .global g => .pointer (some ⟨g, 0, none⟩)
  | .func f => .func (.func f) #[] #[]
def putE (ρ : Env) : Option Nat → Value → Env
  | some d, v => upd ρ d v
  | none, _ => ρ
theorem A73 (ρ : Env) (d : Nat) : upd ρ d (ρ d) = ρ := by
  funext t
  unfold upd
  split
  · rename_i h; rw [Nat.eq_of_beq_eq_true h]
  · rfl
theorem Agr.upds {ρ : Env} : ∀ {l : List (Nat × Value)}, Agr ρ l → upds ρ l = ρ
  | [], _ => rfl
  | p :: l, h => by
    have ih := Agr.upds h.2
    show upd (K.upds ρ l) p.1 p.2 = ρ
    rw [ih, ← h.1, A73]
structure Fr where
  k : Nat
  D : List Deferred
  m : Nat
structure Is (n : Fr) (a : Act) (ρ : Env) : Prop where
  size : a.tmps.size = n.k
  defers : a.defers = n.D
  get : ∀ t, a.tmps.getD t undef = ρ t
theorem Is.eval {n : Fr} {a : Act} {ρ : Env} (h : Is n a ρ) : a.eval = ev ρ := by
  funext x
  cases x <;> simp [Act.eval, ev, h.get]
theorem Is.put {n : Fr} {a : Act} {ρ : Env} (h : Is n a ρ) {d : Nat} (hd : d < n.k) (v : Value) : Is n (a.put (some d) v) (upd ρ d v) := by
  refine ⟨by simp [Act.put, h.size], h.defers, fun t => ?_⟩
  unfold upd
  split
  · rename_i e
    rw [Nat.eq_of_beq_eq_true e]
    have := h.size
    simp [Act.put, Array.getD, hd, this]
  · rename_i e
    have hne : d ≠ t := fun x => by subst x; rw [Nat.beq_refl] at e; cases e
    rw [← h.get t]
    simp only [Act.put, Array.getD_eq_getD_getElem?]
    rw [Array.getElem?_setIfInBounds_ne hne]
def okD (n : Fr) : Option Nat → Bool
  | some d => Nat.blt d n.k && Nat.ble n.m d
  | none => true
theorem Is.putE {n : Fr} {a : Act} {ρ : Env} (h : Is n a ρ) {d : Option Nat} (hd : okD n d = true) (v : Value) : Is n (a.put d v) (putE ρ d v) := by
  cases d with
  | none => exact h
  | some d => exact h.put (by simp [okD, Nat.blt_eq] at hd; exact hd.1) v
def cA : Code → Code
  | .seq a _ => a
  | .cond _ a _ => a
  | .block _ a => a
  | .loop a => a
  | _ => .skip
def cB : Code → Code
  | .seq _ b => b
  | .cond _ _ b => b
  | _ => .skip
def cId : Code → Nat
  | .region i _ _ => i
  | .block i _ => i
  | .exit i => i
  | _ => 0
def D2 : Code → Array Oper
  | .region _ o _ => o
  | _ => #[]
def cC : Code → Operand
  | .cond c _ _ => c
  | _ => .tmp 0
def tag : Code → Nat
  | .skip => 0
  | .region _ _ false => 1
  | .region _ _ true => 2
  | .seq .. => 3
  | .cond .. => 4
  | .block .. => 5
  | .loop .. => 6
  | .exit .. => 7
  | .ret => 8
  | _ => 9
def G7 (fn : Func) : Code := fn.body.getD .skip
def Dm (c : Code) (i : Nat) : Option Oper := (D2 c).toList[i]?
abbrev Ez := Exit → Env → World → Prop
def Rx (n : Fr) (Q : Ez) : Exit → Act → World → Prop
  | .panic ch, a, w => ∃ ρ, (a.defers = n.D ∧ ∀ t, t < n.m → a.tmps.getD t undef = ρ t) ∧ Q (.panic ch) ρ w
  | e, a, w => ∃ ρ, Is n a ρ ∧ Q e ρ w
structure W (P : Program) (n : Fr) (c : Code) (Q : Ez) (ρ : Env) (w : World) : Prop where
  out : ∀ a, Is n a ρ → c.wp P (Rx n Q) a w
def Uy (next : Env → World → Prop) (Q : Ez) : Ez
  | .normal, ρ, w => next ρ w
  | e, ρ, w => Q e ρ w
def Bn7 (id : Nat) (Q : Ez) : Ez
  | .exit id', ρ, w => match Nat.beq id' id with | true => Q .normal ρ w | false => Q (.exit id') ρ w
  | e, ρ, w => Q e ρ w
section
variable {P : Program} {n : Fr} {c : Code} {Q : Ez} {ρ : Env} {w : World}
theorem Aq0 {Q Q' : Ez} (h : ∀ e ρ w, Q e ρ w → Q' e ρ w) : ∀ e a w, Rx n Q e a w → Rx n Q' e a w := by
  intro e a w hq
  cases e <;> (obtain ⟨ρ, h1, h2⟩ := hq; exact ⟨ρ, h1, h _ _ _ h2⟩)
theorem W.mono {Q' : Ez} (h : W P n c Q ρ w) (hq : ∀ e ρ w, Q e ρ w → Q' e ρ w) : W P n c Q' ρ w :=
  ⟨fun a ha => Code.wp_mono (Aq0 hq) (h.out a ha)⟩
theorem W.skip (ht : tag c = 0) (h : Q .normal ρ w) : W P n c Q ρ w := by
  cases c with
  | skip => exact ⟨fun a ha => wp_skip ⟨ρ, ha, h⟩⟩
  | region _ _ b => cases b <;> cases ht
  | _ => cases ht
theorem W.exit (ht : tag c = 7) (h : Q (.exit (cId c)) ρ w) : W P n c Q ρ w := by
  cases c with
  | exit _ => exact ⟨fun a ha => wp_exit ⟨ρ, ha, h⟩⟩
  | region _ _ b => cases b <;> cases ht
  | _ => cases ht
theorem W.ret (ht : tag c = 8) (h : Q .ret ρ w) : W P n c Q ρ w := by
  cases c with
  | ret => exact ⟨fun a ha => wp_ret ⟨ρ, ha, h⟩⟩
  | region _ _ b => cases b <;> cases ht
  | _ => cases ht
theorem W.seq (ht : tag c = 3) (h : W P n (cA c) (Uy (fun ρ w => W P n (cB c) Q ρ w) Q) ρ w) : W P n c Q ρ w := by
  cases c with
  | region _ _ b => cases b <;> cases ht
  | seq x y =>
    refine ⟨fun a ha => wp_seq (Code.wp_mono ?_ (h.out a ha))⟩
    intro e a w hq
    cases e with
    | normal => obtain ⟨ρ', h1, h2⟩ := hq; exact h2.out a h1
    | _ => exact hq
  | _ => cases ht
theorem W.cond {b : Bool} (ht : tag c = 4) (hb : ev ρ (cC c) = .bool b) (h1 : b = true → W P n (cA c) Q ρ w) (h2 : b = false → W P n (cB c) Q ρ w) : W P n c Q ρ w := by
  cases c with
  | region _ _ b => cases b <;> cases ht
  | cond _ _ _ =>
    refine ⟨fun a ha => wp_cond_split (t := b) (by rw [ha.eval]; exact hb) (fun h => (h1 h).out a ha) (fun h => (h2 h).out a ha)⟩
  | _ => cases ht
theorem W.condT (ht : tag c = 4) (hb : ev ρ (cC c) = .bool true) (h : W P n (cA c) Q ρ w) : W P n c Q ρ w := W.cond ht hb (fun _ => h) (fun h => by cases h)
theorem W.condF (ht : tag c = 4) (hb : ev ρ (cC c) = .bool false) (h : W P n (cB c) Q ρ w) : W P n c Q ρ w := W.cond ht hb (fun h => by cases h) (fun _ => h)
theorem W.block (ht : tag c = 5) (h : W P n (cA c) (Bn7 (cId c) Q) ρ w) : W P n c Q ρ w := by
  cases c with
  | region _ _ b => cases b <;> cases ht
  | block id b =>
    refine ⟨fun a ha => wp_block (Code.wp_mono ?_ (h.out a ha))⟩
    intro e a w hq
    cases e with
    | exit id' =>
      obtain ⟨ρ', h1, h2⟩ := hq
      simp only [Bn7, cId] at h2
      simp only [Exit.inBlock]
      split at h2
      · rename_i e; rw [if_pos (Nat.eq_of_beq_eq_true e)]; exact ⟨ρ', h1, h2⟩
      · rename_i e; rw [if_neg (fun x => by subst x; rw [Nat.beq_refl] at e; cases e)]; exact ⟨ρ', h1, h2⟩
    | _ => exact hq
  | _ => cases ht
theorem forget {ρ : Env} {kv l : List (Nat × Value)} (h1 : Agr ρ kv) (h2 : Agr ρ l) : upds (upds ρ kv) l = ρ := by
  rw [h1.upds, h2.upds]
theorem W.loop {γ : Type} (kv : List (Nat × Value)) (sl : γ → List (Nat × Value)) (R : γ → World → Prop) (μ : γ → Nat) (x0 : γ) (ht : tag c = 6) (hk : Agr ρ kv) (hs : Agr ρ (sl x0)) (h0 : R x0 w)
    (round : ∀ x j w, R x w → W P n (cA c) (Uy (fun ρ' w' => ∃ x', Agr ρ' (sl x') ∧ Agr ρ' kv ∧ R x' w' ∧ μ x' < μ x) Q) (upds (upds j kv) (sl x)) w) : W P n c Q ρ w := by
  cases c with
  | region _ _ b => cases b <;> cases ht
  | loop c =>
    refine ⟨fun a ha => ?_⟩
    refine wp_loop_ghost (fun k a w => ∃ x, ∃ j, Is n a (upds (upds j kv) (sl x)) ∧ R x w ∧ μ x = k) (μ x0) ?_ ?_
    · exact ⟨x0, ρ, by rw [forget hk hs]; exact ha, h0, rfl⟩
    · rintro k a w ⟨x, j, ha, hR, rfl⟩
      refine Code.wp_mono ?_ ((round x j w hR).out a ha)
      intro e a w hq
      cases e with
      | normal =>
        obtain ⟨ρ', h1, x', h2, h3, h4, h5⟩ := hq
        exact ⟨_, h5, x', ρ', by rw [forget h3 h2]; exact h1, h4, rfl⟩
      | _ => exact hq
  | _ => cases ht
theorem W.cut {γ : Type} (kv : List (Nat × Value)) (sl : γ → List (Nat × Value)) (R : γ → World → Prop) (hk : Agr ρ kv)
    (h : W P n c (Uy (fun ρ' w' => ∃ x, Agr ρ' (sl x) ∧ Agr ρ' kv ∧ R x w') Q) ρ w)
    (k : ∀ x j w', R x w' → Q .normal (upds (upds j kv) (sl x)) w') : W P n c Q ρ w :=
  h.mono fun e ρ' w' hq => by
    cases e with
    | normal => obtain ⟨x, h1, h2, h3⟩ := hq; rw [← forget h2 h1]; exact k x ρ' w' h3
    | _ => exact hq
theorem W.fresh (kv : List (Nat × Value)) (hk : Agr ρ kv) (h : ∀ j, W P n c Q (upds j kv) w) : W P n c Q ρ w := by
  have := h ρ; rwa [hk.upds] at this
def Ac (P : Program) (fn : Func) (ρ : Env) (w : World) (v : Value) : Prop := ∀ (n : Fr) a, Is n a ρ → (results fn a.tmps).run P w = .ok v w
theorem Ac.none {fn : Func} (h : fn.results = #[]) : Ac P fn ρ w (.tuple #[]) := fun n a ha => by simp [results, h]
theorem Ac.one {fn : Func} {t : Tmp} (h : fn.results = #[.tmp t]) {v : Value} (hv : ρ t = v) : Ac P fn ρ w v := fun n a ha => by
  subst hv; rw [← ha.get t]; simp [results, h]
theorem Ac.two {fn : Func} {t u : Tmp} (h : fn.results = #[.tmp t, .tmp u]) {v v' : Value} (hv : ρ t = v) (hu : ρ u = v') : Ac P fn ρ w (.tuple #[v, v']) := fun n a ha => by
  subst hv; subst hu; rw [← ha.get t, ← ha.get u]; simp [results, h]
theorem Ac.cell {fn : Func} {t : Tmp} {ty : TypeId} (h : fn.results = #[.cell t ty]) {ad : Addr} (ht : ρ t = .pointer (some ad)) {v : Value} (hr : (loadVar ty ad).run P w = .ok v w) : Ac P fn ρ w v := fun n a ha => by
  have h2 : a.tmps.getD t undef = .pointer (some ad) := by rw [ha.get, ht]
  rw [Array.getD_eq_getD_getElem?] at h2
  simp [results, h, h2, asAddr, hr]
theorem Ac.cellTmp {fn : Func} {t u : Tmp} {ty : TypeId} (h : fn.results = #[.cell t ty, .tmp u]) {ad : Addr} (ht : ρ t = .pointer (some ad)) {v v' : Value} (hr : (loadVar ty ad).run P w = .ok v w) (hu : ρ u = v') : Ac P fn ρ w (.tuple #[v, v']) := fun n a ha => by
  have h2 : a.tmps.getD t undef = .pointer (some ad) := by rw [ha.get, ht]
  subst hu
  rw [← ha.get u]
  rw [Array.getD_eq_getD_getElem?] at h2
  simp [results, h, h2, asAddr, hr]
def FQ (P : Program) (fn : Func) (R : Ending → World → Prop) : Ez
  | .normal, ρ, w => ∃ v, Ac P fn ρ w v ∧ R (.returned v) w
  | .ret, ρ, w => ∃ v, Ac P fn ρ w v ∧ R (.returned v) w
  | .panic chain, _, w => R (.panicked chain) w
  | _, _, _ => False
theorem Is.enter {fn : Func} {args : List Value} {n : Nat} (hn : fn.ntmps = n) (hle : args.length ≤ n) : Is ⟨n, [], 0⟩ { tmps := args.toArray ++ Array.replicate (fn.ntmps - args.toArray.size) undef, defers := [] } (env args) := by
  refine ⟨?_, rfl, fun t => ?_⟩
  · simp [hn]; omega
  · have key : ∀ (l : List Value) (k t : Nat), (l ++ List.replicate k undef)[t]?.getD undef = nth l t := by
      intro l
      induction l with
      | nil => intro k t; simp only [List.nil_append, nth, List.getElem?_replicate]; split <;> rfl
      | cons v l ih =>
        intro k t
        cases t with
        | zero => simp [nth]
        | succ t => simpa [nth] using ih k t
    have := key args (fn.ntmps - args.length) t
    simp only [Array.getD_eq_getD_getElem?, env]
    rw [← this]
    congr 1
    simp [← Array.getElem?_toList]
theorem W.func {f : FuncId} {fn : Func} {args : List Value} {R : Ending → World → Prop} {n : Nat} (hf : P.funcs[f]? = some fn) (hb : fn.body.isSome = true) (hn : fn.ntmps = n) (hl : Nat.ble args.length n = true)
    (h : W P ⟨n, [], 0⟩ (G7 fn) (FQ P fn R) (env args) w) : Calls P f args.toArray w R := by
  obtain ⟨c, hc⟩ := Option.isSome_iff_exists.1 hb
  have hle : args.length ≤ n := Nat.le_of_ble_eq_true hl
  refine calls_of_wp hf hc ?_
  have hfb : G7 fn = c := by simp [G7, hc]
  rw [hfb] at h
  refine Code.wp_mono ?_ (h.out _ (Is.enter hn hle))
  · intro e a w hq
    cases e with
    | normal => obtain ⟨ρ, h1, v, h2, h3⟩ := hq; exact ⟨h1.defers, v, h2 _ _ h1, h3⟩
    | ret => obtain ⟨ρ, h1, v, h2, h3⟩ := hq; exact ⟨h1.defers, v, h2 _ _ h1, h3⟩
    | panic ch => obtain ⟨ρ, ⟨h1, _⟩, h2⟩ := hq; exact ⟨h1, h2⟩
    | exit _ => obtain ⟨_, _, h⟩ := hq; exact h
    | goto _ => obtain ⟨_, _, h⟩ := hq; exact h
    | outgrown => obtain ⟨_, _, h⟩ := hq; exact h.elim
def D6 (c : Code) (ρ : Env) : Option (Nat × Bool) → Bool
  | none => true
  | some (j, want) => match Dm c j with
    | some o => (match o.dst with
      | some d => (match ρ d with
        | .bool b => (match b with | true => want | false => !want)
        | _ => false)
      | none => false)
    | none => false
theorem Gq {a : Act} {o : Oper} (ha : Is n a ρ) : Region.wanted o (yielded (D2 c) a.tmps) = D6 c ρ o.guard := by
  unfold Region.wanted D6
  rcases o.guard with _ | ⟨j, want⟩
  · rfl
  · dsimp only
    unfold yielded Dm
    rw [Array.getElem?_toList]
    rcases (D2 c)[j]? with _ | o
    · rfl
    · dsimp only [Option.bind]
      rcases o.dst with _ | d
      · rfl
      · dsimp only
        have h := ha.get d
        rw [Array.getD_eq_getD_getElem?] at h
        rw [← h]
        rcases a.tmps[d]? with _ | v
        · rfl
        · dsimp only [Option.getD]
          cases v <;> first
            | rfl
            | (rename_i b; cases b <;> cases want <;> rfl)
def Y (P : Program) (S : World → Prop) (ρ : Env) (op : Op) (ty : TypeId) (v : Value) : Prop :=
  ∀ w, S w → ∀ o : Oper, o.op = op → o.type = ty → (execOp (ev ρ) o).run P w = .ok (.value v) w
def X (P : Program) (ρ : Env) (w : World) (op : Op) (ty : TypeId) (K : Value → World → Prop) : Prop :=
  ∀ (a : Act) (ops : Array Oper) (Q : Exit → Act → World → Prop) (o : Oper), o.op = op → o.type = ty → a.eval = ev ρ → Region.wanted o (yielded ops a.tmps) = true →
    opK P ops Q o (fun a' w' => ∃ v, a' = a.put o.dst v ∧ K v w') a w
structure Ops (P : Program) (n : Fr) (c : Code) (Q : Ez) (i : Nat) (ρ : Env) (w : World) : Prop where
  out : ∀ a, Is n a ρ → wpList P (D2 c) (Rx n Q) ((D2 c).toList.drop i) a w
theorem W.region (ht : tag c = 1) (h : Ops P n c Q 0 ρ w) : W P n c Q ρ w := by
  cases c with
  | region _ _ b =>
    cases b
    · exact ⟨fun a ha => wp_region_list (h.out a ha)⟩
    · cases ht
  | _ => cases ht
theorem Ops.done {i : Nat} (ho : Dm c i = none) (h : Q .normal ρ w) : Ops P n c Q i ρ w := by
  refine ⟨fun a ha => ?_⟩
  have : (D2 c).toList.drop i = [] := by
    unfold Dm at ho
    simp at ho
    simpa using ho
  rw [this]
  exact ⟨ρ, ha, h⟩
theorem F7 {i : Nat} {o : Oper} (ho : Dm c i = some o) : (D2 c).toList.drop i = o :: (D2 c).toList.drop (i + 1) := by
  unfold Dm at ho
  have hi : i < (D2 c).toList.length := by
    rcases Nat.lt_or_ge i (D2 c).toList.length with h | h
    · exact h
    · rw [List.getElem?_eq_none h] at ho; cases ho
  rw [List.getElem?_eq_getElem hi] at ho
  injection ho with ho
  rw [← ho, List.drop_eq_getElem_cons hi]
theorem Ops.x {i : Nat} {d : Option Nat} {op : Op} {ty : TypeId} {ps : String} {af : Array Edge} {gd : Option (Nat × Bool)} (ho : Dm c i = some ⟨d, op, ty, ps, af, gd⟩) (hw : D6 c ρ gd = true) (hd : okD n d = true)
    (hx : X P ρ w op ty (fun v w' => Ops P n c Q (i + 1) (putE ρ d v) w')) : Ops P n c Q i ρ w := by
  refine ⟨fun a ha => ?_⟩
  rw [F7 ho]
  refine F9 ?_
  have hw' := Gq (c := c) (o := ⟨d, op, ty, ps, af, gd⟩) ha
  rw [hw] at hw'
  have h := hx a (D2 c) (Rx n Q) ⟨d, op, ty, ps, af, gd⟩ rfl rfl ha.eval hw'
  unfold opK at h ⊢
  rw [if_pos hw'] at h ⊢
  refine Oper.wp_mono ?_ h
  rintro a' w' ⟨v, rfl, h⟩
  exact h.out _ (ha.putE hd v)
theorem Ops.y {i : Nat} {d : Nat} {op : Op} {ty : TypeId} {ps : String} {af : Array Edge} {gd : Option (Nat × Bool)} {v : Value} {S : World → Prop} (ho : Dm c i = some ⟨some d, op, ty, ps, af, gd⟩) (hw : D6 c ρ gd = true) (hd : okD n (some d) = true)
    (hS : S w) (hy : Y P S ρ op ty v) (k : Ops P n c Q (i + 1) (upd ρ d v) w) : Ops P n c Q i ρ w := by
  refine Ops.x ho hw hd ?_
  intro a ops Q o h1 h2 h3 h4
  refine wpl h4 (v := v) (w' := w) ?_ ⟨v, rfl, k⟩
  rw [h3]
  exact hy w hS o h1 h2
theorem Ops.no {i : Nat} {d : Option Nat} {op : Op} {ty : TypeId} {ps : String} {af : Array Edge} {gd : Option (Nat × Bool)} (ho : Dm c i = some ⟨d, op, ty, ps, af, gd⟩) (hw : D6 c ρ gd = false) (hd : okD n d = true)
    (k : Ops P n c Q (i + 1) (putE ρ d undef) w) : Ops P n c Q i ρ w := by
  refine ⟨fun a ha => ?_⟩
  rw [F7 ho]
  unfold wpList
  have hw' := Gq (c := c) (o := ⟨d, op, ty, ps, af, gd⟩) ha
  rw [hw] at hw'
  rw [if_neg (by rw [hw']; decide)]
  exact k.out _ (ha.putE hd undef)
def tl (T : List Nat) (listed : Array Bool) : Bool := T.all fun t => !listed.getD t true
def La (P : Program) (ops : Array Oper) (Q : Exit → Act → World → Prop) (S : World → Prop) (T : List Nat) : Nat → Array Bool → Act → World → Prop
  | 0, listed, a, w => Region.ready .any ops listed = [] ∧ Q .normal a w
  | fuel + 1, listed, a, w => (Region.ready .any ops listed = [] → Q .normal a w) ∧
      ∀ i ∈ Region.ready .any ops listed, wpOp P ops Q i (fun a' w' => (tl T (listed.setIfInBounds i true) = true → S w') ∧ La P ops Q S T fuel (listed.setIfInBounds i true) a' w') a w
theorem U6 {ops : Array Oper} {Q : Exit → Act → World → Prop} {S : World → Prop} {T : List Nat} : ∀ (fuel : Nat) (listed : Array Bool) (a : Act) (w : World), La P ops Q S T fuel listed a w → wpAny P .any ops Q fuel listed a w
  | 0, _, _, _, h => h
  | fuel + 1, _, _, _, h => ⟨h.1, fun i hi => wpOp_mono (fun _ _ h' => U6 fuel _ _ _ h'.2) (h.2 i hi)⟩
def U4 (ops : Array Oper) (i j : Nat) : Bool :=
  match ops[j]? with
  | some o => o.after.any fun e => Region.binds .any e && e.on == i
  | none => false
theorem Wz {T : List Nat} {listed : Array Bool} {j : Nat} (hj : T.contains j = false) : tl T (listed.setIfInBounds j true) = tl T listed := by
  unfold tl
  rw [Bool.eq_iff_iff, List.all_eq_true, List.all_eq_true]
  refine forall_congr' fun t => forall_congr' fun ht => ?_
  rw [getD_set_ne true (fun e => by subst e; rw [List.contains_iff_mem.2 ht] at hj; cases hj)]
theorem Zs {ops : Array Oper} {i j : Nat} {listed : Array Bool} (hi : i ∈ Region.ready .any ops listed) (hj : j ∈ Region.ready .any ops listed) : U4 ops i j = false := by
  obtain ⟨_, oj, hoj, hall⟩ := mem_ready.1 hj
  unfold U4
  rw [hoj]
  dsimp only
  rw [← Bool.not_eq_true]
  intro hany
  obtain ⟨e, he, hb⟩ := Array.any_eq_true'.1 hany
  simp only [Bool.and_eq_true, beq_iff_eq] at hb
  have h1 := hall e he hb.1
  rw [hb.2] at h1
  have h0 := (mem_ready.1 hi).1
  have hlt : i < listed.size := by
    rcases Nat.lt_or_ge i listed.size with h | h
    · exact h
    · simp [Array.getElem?_eq_none h] at h1
  simp [hlt] at h0 h1
  rw [h0] at h1
  cases h1
def H4 (ops : Array Oper) (B : List Nat) (j : Nat) : Bool :=
  match ops[j]? with
  | some o => o.after.any fun e => Region.binds .any e && B.contains e.on
  | none => false
def blk (ops : Array Oper) : Nat → List Nat → Nat → List Nat
  | 0, B, _ => B
  | n + 1, B, k => match H4 ops B k with
    | true => blk ops n (k :: B) (k + 1)
    | false => blk ops n B (k + 1)
def Blk (ops : Array Oper) (i : Nat) (B : List Nat) : Prop := ∀ k ∈ B, k ≠ i → H4 ops B k = true
theorem L7 {ops : Array Oper} {B : List Nat} {j k : Nat} (h : H4 ops B j = true) : H4 ops (k :: B) j = true := by
  unfold H4 at h ⊢
  cases hh : ops[j]? with
  | none => rw [hh] at h; cases h
  | some o =>
    rw [hh] at h
    dsimp only at h ⊢
    obtain ⟨e, he, hb⟩ := Array.any_eq_true'.1 h
    rw [Bool.and_eq_true] at hb
    exact Array.any_eq_true'.2 ⟨e, he, by rw [hb.1, List.contains_iff_mem.2 (List.mem_cons_of_mem _ (List.contains_iff_mem.1 hb.2))]; rfl⟩
theorem Aa7 {ops : Array Oper} {i : Nat} : ∀ (n : Nat) (B : List Nat) (k : Nat), Blk ops i B → Blk ops i (blk ops n B k)
  | 0, _, _, h => h
  | n + 1, B, k, h => by
    unfold blk
    split
    · rename_i hw
      refine Aa7 n _ _ fun j hj hji => ?_
      rcases List.mem_cons.1 hj with rfl | hj
      · exact L7 hw
      · exact L7 (h j hj hji)
    · exact Aa7 n _ _ h
def Lo (ops : Array Oper) (T : List Nat) (listed : Array Bool) (i : Nat) : Bool :=
  (T.all fun j => U4 ops i j) || ((T.all fun j => (blk ops ops.size [i] (i + 1)).contains j) && (blk ops ops.size [i] (i + 1)).all fun k => !listed.getD k true)
structure Aft (ops : Array Oper) (T : List Nat) (listed : Array Bool) (i : Nat) (B : List Nat) : Prop where
  tail : ∀ j, T.contains j = true → j ∈ B
  blk : Blk ops i B
  un : ∀ k ∈ B, k ≠ i → listed.getD k true = false
theorem Aft.not {ops : Array Oper} {T : List Nat} {listed : Array Bool} {i j : Nat} {B : List Nat} (h : Aft ops T listed i B) (hi : i ∈ Region.ready .any ops listed) (hj : j ∈ Region.ready .any ops listed) (hji : j ≠ i) : j ∉ B := by
  intro hB
  have hw := h.blk j hB hji
  obtain ⟨_, oj, hoj, hall⟩ := mem_ready.1 hj
  unfold H4 at hw
  rw [hoj] at hw
  dsimp only at hw
  obtain ⟨e, he, hb⟩ := Array.any_eq_true'.1 hw
  rw [Bool.and_eq_true] at hb
  have h1 := hall e he hb.1
  have hunl : listed.getD e.on true = false := by
    rcases Nat.decEq e.on i with hne | heq
    · exact h.un _ (List.contains_iff_mem.1 hb.2) hne
    · rw [heq]; exact (mem_ready.1 hi).1
  have hlt : e.on < listed.size := by
    rcases Nat.lt_or_ge e.on listed.size with h | h
    · exact h
    · simp [Array.getElem?_eq_none h] at h1
  simp [hlt] at hunl h1
  rw [hunl] at h1
  cases h1
theorem Tk {ops : Array Oper} {T : List Nat} {listed : Array Bool} {i : Nat} (htl : tl T listed = true) (h : Lo ops T listed i = true) : ∃ B, Aft ops T listed i B := by
  unfold Lo at h
  rw [Bool.or_eq_true] at h
  rcases h with h | h
  · have h2 := List.all_eq_true.1 h
    have h3 := List.all_eq_true.1 htl
    refine ⟨i :: T, fun j hj => List.mem_cons_of_mem _ (List.contains_iff_mem.1 hj), fun k hk hki => ?_, fun k hk hki => ?_⟩
    · rcases List.mem_cons.1 hk with e | hk
      · exact absurd e hki
      · have h4 := h2 k hk
        unfold U4 at h4
        unfold H4
        cases hh : ops[k]? with
        | none => rw [hh] at h4; cases h4
        | some o =>
          rw [hh] at h4
          dsimp only at h4 ⊢
          obtain ⟨e, he, hb⟩ := Array.any_eq_true'.1 h4
          rw [Bool.and_eq_true, beq_iff_eq] at hb
          exact Array.any_eq_true'.2 ⟨e, he, by rw [hb.1, hb.2, List.contains_iff_mem.2 (List.mem_cons_self)]; rfl⟩
    · rcases List.mem_cons.1 hk with e | hk
      · exact absurd e hki
      · have := h3 k hk
        simpa using this
  · rw [Bool.and_eq_true] at h
    refine ⟨_, fun j hj => List.contains_iff_mem.1 (List.all_eq_true.1 h.1 j (List.contains_iff_mem.1 hj)), Aa7 _ _ _ (fun k hk hki => absurd (List.mem_singleton.1 hk) hki), fun k hk _ => ?_⟩
    have := List.all_eq_true.1 h.2 k hk
    simpa using this
theorem Aft.set {ops : Array Oper} {T : List Nat} {listed : Array Bool} {i j : Nat} {B : List Nat} (h : Aft ops T listed i B) (hj : j ∉ B) : Aft ops T (listed.setIfInBounds j true) i B :=
  ⟨h.tail, h.blk, fun k hk hki => by rw [getD_set_ne true (fun e => by subst e; exact hj hk)]; exact h.un k hk hki⟩
theorem Zy {ops : Array Oper} {Q : Exit → Act → World → Prop} {S S' : World → Prop} {T : List Nat} {i : Nat} {oi : Oper} {v : Value} (hi : ops[i]? = some oi) (hsel : Region.noSelect ops = true) (hiT : T.contains i = false)
    (hQ : ∀ c a w, Q (.panic c) (a.put oi.dst v) w → Q (.panic c) a w) (hmode : (∀ w, S w → S' w) ∨ (∀ w, S' w)) : ∀ (fuel : Nat) (listed : Array Bool) (a : Act) (w : World),
      ((∃ B, Aft ops T listed i B) ∨ (∀ w, S' w)) →
      (∀ j oj, ops[j]? = some oj → j ≠ i → listed.getD j true = false → U4 ops i j = false → oi.apart ops oj = true) →
      (tl T listed = true ∨ ∀ w, S' w) → i ∈ Region.ready .any ops listed → YieldsIf P ops S' oi v a → (tl T listed = true → S w) →
      La P ops Q S T fuel (listed.setIfInBounds i true) (a.put oi.dst v) w → La P ops Q S T (fuel + 1) listed a w := by
  have hS' : ∀ (listed : Array Bool) (w : World), (tl T listed = true ∨ ∀ w, S' w) → (tl T listed = true → S w) → S' w := by
    intro listed w h1 h2
    rcases h1 with h1 | h1
    · rcases hmode with h3 | h3
      · exact h3 w (h2 h1)
      · exact h3 w
    · exact h1 w
  intro fuel
  induction fuel with
  | zero =>
    intro listed a w _ _ htl hr hy hS H
    refine ⟨fun h => (by rw [h] at hr; cases hr), fun j hj => ?_⟩
    rcases Nat.decEq j i with hji | hji
    · exact absurd (H.1 ▸ ready_mono hj hji) (by simp)
    · subst hji; exact hy.wpOp hi (hS' listed w htl hS) ⟨by rw [Wz hiT]; exact hS, H⟩
  | succ fuel ih =>
    intro listed a w haft hfree htl hr hy hS H
    refine ⟨fun h => (by rw [h] at hr; cases hr), fun j hj => ?_⟩
    rcases Nat.decEq j i with hji | hji
    · have hwt := Zs hr hj
      obtain ⟨hjun, oj, hoj, hall⟩ := mem_ready.1 hj
      have hun : ∀ k, (listed.setIfInBounds j true).getD k true = false → listed.getD k true = false := by
        intro k hk
        rcases Nat.decEq j k with e | e
        · rwa [getD_set_ne true e] at hk
        · subst e; exact hjun
      refine wpOp_mono ?_ (wpOp_putIf hoj (hfree j oj hoj hji hjun hwt) (fun cs b => Region.noSelect_spec hsel i oi cs b hi) (fun cs b => Region.noSelect_spec hsel j oj cs b hoj) hQ hy (H.2 j (ready_mono hj hji)))
      rintro a' w' ⟨hy', hSj, hw'⟩
      rw [Array.setIfInBounds_comm _ _ (fun e => hji e.symm), Wz hiT] at hSj
      refine ⟨hSj, ih (listed.setIfInBounds j true) a' w' ?_ (fun k ok hk hki hu hn => hfree k ok hk hki (hun k hu) hn) ?_ (ready_mono hr (fun e => hji e.symm)) hy' hSj ?_⟩
      · rcases haft with ⟨B, h3⟩ | h3
        · exact .inl ⟨B, h3.set (h3.not hr hj hji)⟩
        · exact .inr h3
      · rcases haft with ⟨B, h3⟩ | h3
        · have hjT : T.contains j = false := by
            cases hc : T.contains j with
            | false => rfl
            | true => exact absurd (h3.tail j hc) (h3.not hr hj hji)
          rw [Wz hjT]; exact htl
        · exact .inr h3
      · rw [Array.setIfInBounds_comm _ _ hji]
        exact hw'
    · subst hji; exact hy.wpOp hi (hS' listed w htl hS) ⟨by rw [Wz hiT]; exact hS, H⟩
def nxt (P : Program) (ops : Array Oper) (Q : Exit → Act → World → Prop) (S : World → Prop) (T : List Nat) (fuel : Nat) (listed : Array Bool) (i : Nat) (a : Act) (w : World) : Prop :=
  wpOp P ops Q i (fun a' w' => (tl T (listed.setIfInBounds i true) = true → S w') ∧ La P ops Q S T fuel (listed.setIfInBounds i true) a' w') a w
theorem Bm0 {ops : Array Oper} {Q : Exit → Act → World → Prop} {S : World → Prop} {T : List Nat} {i : Nat} {o : Oper} {fuel : Nat} {listed : Array Bool} {a : Act} {w : World} (hi : ops[i]? = some o)
    (h : ∀ K' : Act → World → Prop, (∀ a w, (tl T (listed.setIfInBounds i true) = true → S w) → La P ops Q S T fuel (listed.setIfInBounds i true) a w → K' a w) → opK P ops Q o K' a w) : nxt P ops Q S T fuel listed i a w := by
  unfold nxt wpOp
  simp only [hi]
  have h2 := h (fun a' w' => (tl T (listed.setIfInBounds i true) = true → S w') ∧ La P ops Q S T fuel (listed.setIfInBounds i true) a' w') (fun _ _ h1 h2 => ⟨h1, h2⟩)
  unfold opK at h2
  split
  · rename_i hw; rw [if_pos hw] at h2; exact .inl h2
  · rename_i hw; rw [if_neg hw] at h2; exact h2
inductive Tr where
  | nil
  | op (i m : Nat) (r : Tr)
  | alt (i : Nat) (r s : Tr)
def Tr.fuel : Tr → Nat
  | .nil => 0
  | .op _ _ r => r.fuel + 1
  | .alt _ r _ => r.fuel + 1
def Tr.heads : Tr → List Nat
  | .nil => []
  | .op i _ _ => [i]
  | .alt i _ s => i :: s.heads
def chk (ops : Array Oper) (T : List Nat) : Bool → Tr → Array Bool → Bool
  | _, .nil, listed => (Region.ready .any ops listed).isEmpty
  | true, .op i _ r, listed => chk ops T false r (listed.setIfInBounds i true)
  | false, .op i 1 r, listed => (Region.ready .any ops listed == [i]) && chk ops T false r (listed.setIfInBounds i true)
  | false, .op i m r, listed => (Region.free .any ops listed i && (!T.contains i && tl T listed && (m == 2 || Lo ops T listed i))) && ((Region.ready .any ops listed).contains i && chk ops T false r (listed.setIfInBounds i true))
  | b, .alt i r s, listed => (b || Region.ready .any ops listed == i :: s.heads) && (s.fuel == r.fuel + 1 && (chk ops T false r (listed.setIfInBounds i true) && chk ops T true s listed))
theorem Aw3 {ops : Array Oper} {T : List Nat} {i m : Nat} {r : Tr} {listed : Array Bool} (hm : m ≠ 1) : chk ops T false (.op i m r) listed = ((Region.free .any ops listed i && (!T.contains i && tl T listed && (m == 2 || Lo ops T listed i))) && ((Region.ready .any ops listed).contains i && chk ops T false r (listed.setIfInBounds i true))) := by
  rcases m with _ | _ | m
  · rfl
  · exact absurd rfl hm
  · rfl
structure Drw (P : Program) (n : Fr) (c : Code) (Q : Ez) (S : World → Prop) (T : List Nat) (ord : Tr) (ρ : Env) (w : World) : Prop where
  out : Region.noSelect (D2 c) = true → ∀ listed, chk (D2 c) T false ord listed = true → ∀ a, Is n a ρ → La P (D2 c) (Rx n Q) S T ord.fuel listed a w
structure One (P : Program) (n : Fr) (c : Code) (Q : Ez) (S : World → Prop) (T : List Nat) (i : Nat) (r : Tr) (ρ : Env) (w : World) : Prop where
  out : Region.noSelect (D2 c) = true → ∀ listed, chk (D2 c) T false r (listed.setIfInBounds i true) = true → (i ∈ Region.ready .any (D2 c) listed) → ∀ a, Is n a ρ → nxt P (D2 c) (Rx n Q) S T r.fuel listed i a w
structure Alts (P : Program) (n : Fr) (c : Code) (Q : Ez) (S : World → Prop) (T : List Nat) (t : Tr) (ρ : Env) (w : World) : Prop where
  out : Region.noSelect (D2 c) = true → ∀ listed, chk (D2 c) T true t listed = true → ∀ a, Is n a ρ → ∀ m, t.fuel = m + 1 → ∀ j ∈ t.heads, j ∈ Region.ready .any (D2 c) listed → nxt P (D2 c) (Rx n Q) S T m listed j a w
theorem Alts.one {S : World → Prop} {T : List Nat} {i m : Nat} {r : Tr} (h : One P n c Q S T i r ρ w) : Alts P n c Q S T (.op i m r) ρ w := by
  refine ⟨fun hn listed hc a ha m hm j hj hr => ?_⟩
  simp only [Tr.fuel, Nat.add_right_cancel_iff] at hm
  simp only [Tr.heads, List.mem_singleton] at hj
  subst hm; subst hj
  exact h.out hn listed hc hr a ha
theorem Alts.more {S : World → Prop} {T : List Nat} {i : Nat} {r s : Tr} (h : One P n c Q S T i r ρ w) (k : Alts P n c Q S T s ρ w) : Alts P n c Q S T (.alt i r s) ρ w := by
  refine ⟨fun hn listed hc a ha m hm j hj hr => ?_⟩
  simp only [Tr.fuel, Nat.add_right_cancel_iff] at hm
  simp only [chk, Bool.true_or, Bool.true_and, Bool.and_eq_true, beq_iff_eq] at hc
  subst hm
  simp only [Tr.heads, List.mem_cons] at hj
  rcases hj with rfl | hj
  · exact h.out hn listed hc.2.1 hr a ha
  · exact k.out hn listed hc.2.2 a ha _ hc.1 j hj hr
theorem Drw.alts {S : World → Prop} {T : List Nat} {i : Nat} {r s : Tr} (h : Alts P n c Q S T (.alt i r s) ρ w) : Drw P n c Q S T (.alt i r s) ρ w := by
  refine ⟨fun hn listed hc a ha => ?_⟩
  have hc2 : chk (D2 c) T true (.alt i r s) listed = true := by
    simp only [chk, Bool.false_or, Bool.true_or, Bool.true_and, Bool.and_eq_true] at hc ⊢
    exact hc.2
  have hrd : Region.ready .any (D2 c) listed = (Tr.alt i r s).heads := by
    simp only [chk, Bool.false_or, Bool.and_eq_true, beq_iff_eq] at hc
    exact hc.1
  refine ⟨fun h => (by rw [hrd] at h; cases h), fun j hj => ?_⟩
  exact h.out hn listed hc2 a ha _ rfl j (hrd ▸ hj) hj
theorem Drw.one {S : World → Prop} {T : List Nat} {i : Nat} {r : Tr} (h : One P n c Q S T i r ρ w) : Drw P n c Q S T (.op i 1 r) ρ w := by
  refine ⟨fun hn listed hc a ha => ?_⟩
  simp only [chk, Bool.and_eq_true, beq_iff_eq] at hc
  refine ⟨fun h => (by rw [hc.1] at h; cases h), fun j hj => ?_⟩
  have hj' := hj
  rw [hc.1, List.mem_singleton] at hj'
  subst hj'
  exact h.out hn listed hc.2 hj a ha
theorem W.drawn (ht : tag c = 2) (hm : P.follows .mixedOrders = true) (S : World → Prop) (T : List Nat) (ord : Tr) (hl : ord.fuel = (D2 c).size)
    (hc : (Region.noSelect (D2 c) && chk (D2 c) T false ord (Array.replicate ord.fuel false)) = true) (hS : S w.drew) (h : Drw P n c Q S T ord ρ w.drew) : W P n c Q ρ w := by
  rw [Bool.and_eq_true] at hc
  cases c with
  | region _ _ b =>
    cases b
    · cases ht
    · refine ⟨fun a ha => wp_region_any hm (U6 (S := S) (T := T) _ _ _ _ ?_)⟩
      have := h.out hc.1 _ hc.2 a ha
      rw [hl] at this
      exact this
  | _ => cases ht
section
variable {S : World → Prop} {T : List Nat} {i : Nat} {r : Tr} {op : Op} {ty : TypeId} {ps : String} {af : Array Edge} {gd : Option (Nat × Bool)}
theorem Drw.done (h : Q .normal ρ w) : Drw P n c Q S T .nil ρ w := by
  refine ⟨fun _ listed hc a ha => ?_⟩
  have : Region.ready .any (D2 c) listed = [] := by simpa [chk] using hc
  exact ⟨this, ρ, ha, h⟩
theorem Drw.take {d m : Nat} {o : Oper} {v : Value} {S' : World → Prop} (hm : m ≠ 1) (hmode : (∀ w, S w → S' w) ∧ m = 0 ∨ (∀ w, S' w)) (ho : Dm c i = some o) (ho2 : o.dst = some d) (hd : okD n (some d) = true)
    (hy : ∀ a, Is n a ρ → YieldsIf P (D2 c) S' o v a) (hS : S w) (k : Drw P n c Q S T r (upd ρ d v) w) : Drw P n c Q S T (.op i m r) ρ w := by
  refine ⟨fun hn listed hc a ha => ?_⟩
  rw [Aw3 hm] at hc
  simp only [Bool.and_eq_true, Bool.or_eq_true, beq_iff_eq] at hc
  obtain ⟨⟨hfree, ⟨hiT, htl⟩, hm2⟩, hrd, hrest⟩ := hc
  have ho' : (D2 c)[i]? = some o := by unfold Dm at ho; rwa [Array.getElem?_toList] at ho
  refine Zy (i := i) (oi := o) (v := v) (S' := S') ho' hn (by simpa using hiT) ?_ ?_ _ listed a w ?_ ?_ (.inl htl) (by simpa using hrd) (hy a ha) (fun _ => hS) ?_
  · rintro c a w ⟨ρ', ⟨h0, h1⟩, h2⟩
    refine ⟨ρ', ⟨?_, fun t ht => ?_⟩, h2⟩
    · rw [ho2] at h0; exact h0
    · rw [← h1 t ht, ho2]
      have hmd : n.m ≤ d := by simp [okD] at hd; exact hd.2
      simp only [Act.put, Array.getD_eq_getD_getElem?]
      rw [Array.getElem?_setIfInBounds_ne (by omega)]
  · rcases hmode with h | h
    · exact .inl h.1
    · exact .inr h
  · rcases hmode with h | h
    · rcases hm2 with h2 | h2
      · rw [h.2] at h2; cases h2
      · exact .inl (Tk htl h2)
    · exact .inr h
  · intro j oj hj hne hun hwt
    refine Region.free_spec ho' hfree j oj hj hne hun (fun e he hb heq => ?_)
    unfold U4 at hwt
    rw [hj] at hwt
    dsimp only at hwt
    have : (oj.after.any fun e => Region.binds .any e && e.on == i) = true := Array.any_eq_true'.2 ⟨e, he, by simp [hb, heq]⟩
    rw [this] at hwt
    cases hwt
  · rw [ho2]
    exact k.out hn _ hrest _ (ha.put (by simp [okD, Nat.blt_eq] at hd; exact hd.1) v)
theorem Drw.y {d : Nat} {v : Value} (ho : Dm c i = some ⟨some d, op, ty, ps, af, gd⟩) (hw : D6 c ρ gd = true) (hd : okD n (some d) = true)
    (hS : S w) (hy : Y P S ρ op ty v) (k : Drw P n c Q S T r (upd ρ d v) w) : Drw P n c Q S T (.op i 0 r) ρ w := by
  refine Drw.take (by decide) (.inl ⟨fun _ h => h, rfl⟩) ho rfl hd (fun a ha => .inl ⟨?_, fun w hS => ?_⟩) hS k
  · rw [Gq ha]; exact hw
  · rw [ha.eval]; exact hy w hS _ rfl rfl
theorem Drw.ya {d : Nat} {v : Value} (ho : Dm c i = some ⟨some d, op, ty, ps, af, gd⟩) (hw : D6 c ρ gd = true) (hd : okD n (some d) = true)
    (hS : S w) (hy : Y P (fun _ => True) ρ op ty v) (k : Drw P n c Q S T r (upd ρ d v) w) : Drw P n c Q S T (.op i 2 r) ρ w := by
  refine Drw.take (by decide) (.inr fun _ => trivial) ho rfl hd (fun a ha => .inl ⟨?_, fun w hS => ?_⟩) hS k
  · rw [Gq ha]; exact hw
  · rw [ha.eval]; exact hy w hS _ rfl rfl
theorem Drw.no {d : Nat} (ho : Dm c i = some ⟨some d, op, ty, ps, af, gd⟩) (hw : D6 c ρ gd = false) (hd : okD n (some d) = true)
    (hS : S w) (k : Drw P n c Q S T r (upd ρ d undef) w) : Drw P n c Q S T (.op i 0 r) ρ w := by
  refine Drw.take (by decide) (.inl ⟨fun _ h => h, rfl⟩) ho rfl hd (fun a ha => .inr ⟨?_, rfl⟩) hS k
  rw [Gq ha]; exact hw
theorem One.step {d : Option Nat} (ho : Dm c i = some ⟨d, op, ty, ps, af, gd⟩)
    (h : ∀ (a : Act) (K' : Act → World → Prop), Is n a ρ → (∀ v w', (T.contains i = true ∨ S w') → Drw P n c Q S T r (putE ρ d v) w' → okD n d = true → K' (a.put d v) w') → opK P (D2 c) (Rx n Q) ⟨d, op, ty, ps, af, gd⟩ K' a w) :
    One P n c Q S T i r ρ w := by
  refine ⟨fun hn listed hc hr a ha => ?_⟩
  refine Bm0 (by unfold Dm at ho; rwa [Array.getElem?_toList] at ho) (fun K' hK' => h a K' ha ?_)
  intro v w' h1 h2 h3
  refine hK' _ _ (fun htl => ?_) (h2.out hn _ hc _ (ha.putE h3 v))
  rcases h1 with h1 | h1
  · exfalso
    have hlt : i < listed.size := by
      have h0 := (mem_ready.1 hr).1
      rcases Nat.lt_or_ge i listed.size with h | h
      · exact h
      · simp [Array.getElem?_eq_none h] at h0
    have := (List.all_eq_true.1 htl) i (List.contains_iff_mem.1 h1)
    simp [hlt] at this
  · exact h1
theorem One.noX {d : Option Nat} (ho : Dm c i = some ⟨d, op, ty, ps, af, gd⟩) (hw : D6 c ρ gd = false) (hd : okD n d = true)
    (hS : S w) (k : Drw P n c Q S T r (putE ρ d undef) w) : One P n c Q S T i r ρ w := by
  refine One.step ho fun a K' ha hK' => ?_
  have hw' := Gq (c := c) (o := ⟨d, op, ty, ps, af, gd⟩) ha
  rw [hw] at hw'
  unfold opK
  rw [if_neg (by rw [hw']; decide)]
  exact hK' undef w (.inr hS) k hd
theorem One.go {d : Option Nat} (ho : Dm c i = some ⟨d, op, ty, ps, af, gd⟩) (hw : D6 c ρ gd = true) (hd : okD n d = true)
    (hx : X P ρ w op ty (fun v w' => (T.contains i = true ∨ S w') ∧ Drw P n c Q S T r (putE ρ d v) w')) : One P n c Q S T i r ρ w := by
  refine One.step ho fun a K' ha hK' => ?_
  have hw' := Gq (c := c) (o := ⟨d, op, ty, ps, af, gd⟩) ha
  rw [hw] at hw'
  have h := hx a (D2 c) (Rx n Q) ⟨d, op, ty, ps, af, gd⟩ rfl rfl ha.eval hw'
  unfold opK at h ⊢
  rw [if_pos hw'] at h ⊢
  refine Oper.wp_mono ?_ h
  rintro a' w' ⟨v, rfl, h1, h2⟩
  exact hK' v w' h1 h2 hd
theorem X.mono {K K' : Value → World → Prop} (h : X P ρ w op ty K) (hk : ∀ v w', K v w' → K' v w') : X P ρ w op ty K' := by
  intro a ops Q o h1 h2 h3 h4
  have := h a ops Q o h1 h2 h3 h4
  unfold opK at this ⊢
  rw [if_pos h4] at this ⊢
  exact Oper.wp_mono (fun a' w' ⟨v, e, hv⟩ => ⟨v, e, hk v w' hv⟩) this
theorem One.x {d : Option Nat} (ho : Dm c i = some ⟨d, op, ty, ps, af, gd⟩) (hw : D6 c ρ gd = true) (hd : okD n d = true)
    (hx : X P ρ w op ty (fun v w' => S w' ∧ Drw P n c Q S T r (putE ρ d v) w')) : One P n c Q S T i r ρ w :=
  One.go ho hw hd (hx.mono fun _ _ ⟨h1, h2⟩ => ⟨.inr h1, h2⟩)
theorem One.z {d : Option Nat} (ho : Dm c i = some ⟨d, op, ty, ps, af, gd⟩) (hw : D6 c ρ gd = true) (hd : okD n d = true) (hT : T.contains i = true)
    (hx : X P ρ w op ty (fun v w' => Drw P n c Q S T r (putE ρ d v) w')) : One P n c Q S T i r ρ w :=
  One.go ho hw hd (hx.mono fun _ _ h2 => ⟨.inl hT, h2⟩)
theorem One.zy {d : Nat} {v : Value} {S' : World → Prop} (ho : Dm c i = some ⟨some d, op, ty, ps, af, gd⟩) (hw : D6 c ρ gd = true) (hd : okD n (some d) = true) (hT : T.contains i = true)
    (hS : S' w) (hy : Y P S' ρ op ty v) (k : Drw P n c Q S T r (upd ρ d v) w) : One P n c Q S T i r ρ w := by
  refine One.z ho hw hd hT ?_
  intro a ops Q o h1 h2 h3 h4
  refine wpl h4 (v := v) (w' := w) ?_ ⟨v, rfl, k⟩
  rw [h3]
  exact hy w hS o h1 h2
theorem Drw.noX {d : Option Nat} (ho : Dm c i = some ⟨d, op, ty, ps, af, gd⟩) (hw : D6 c ρ gd = false) (hd : okD n d = true)
    (hS : S w) (k : Drw P n c Q S T r (putE ρ d undef) w) : Drw P n c Q S T (.op i 1 r) ρ w := Drw.one (One.noX ho hw hd hS k)
theorem Drw.x {d : Option Nat} (ho : Dm c i = some ⟨d, op, ty, ps, af, gd⟩) (hw : D6 c ρ gd = true) (hd : okD n d = true)
    (hx : X P ρ w op ty (fun v w' => S w' ∧ Drw P n c Q S T r (putE ρ d v) w')) : Drw P n c Q S T (.op i 1 r) ρ w := Drw.one (One.x ho hw hd hx)
theorem Drw.z {d : Option Nat} (ho : Dm c i = some ⟨d, op, ty, ps, af, gd⟩) (hw : D6 c ρ gd = true) (hd : okD n d = true) (hT : T.contains i = true)
    (hx : X P ρ w op ty (fun v w' => Drw P n c Q S T r (putE ρ d v) w')) : Drw P n c Q S T (.op i 1 r) ρ w := Drw.one (One.z ho hw hd hT hx)
theorem Drw.zy {d : Nat} {v : Value} {S' : World → Prop} (ho : Dm c i = some ⟨some d, op, ty, ps, af, gd⟩) (hw : D6 c ρ gd = true) (hd : okD n (some d) = true) (hT : T.contains i = true)
    (hS : S' w) (hy : Y P S' ρ op ty v) (k : Drw P n c Q S T r (upd ρ d v) w) : Drw P n c Q S T (.op i 1 r) ρ w := Drw.one (One.zy ho hw hd hT hS hy k)
end
end
section
variable {P : Program} {n : Fr} {c : Code} {Q : Ez} {ρ : Env} {w0 w : World} {F0 : List Nat} {L G : List Res} {S : World → Prop} {ty t t' : TypeId} {x y : Operand}
def Any : World → Prop := fun _ => True
theorem any (w : World) : Any w := trivial
theorem St.ctx (h : St w0 F0 w L G) : Ctx w0 F0 L G w := ⟨[], [], h⟩
theorem St.ctx1 {a : Res} (h : St w0 F0 w (a :: L) G) : Ctx w0 F0 L G w := ⟨[a], [], h⟩
theorem St.ctx2 {a b : Res} (h : St w0 F0 w (a :: b :: L) G) : Ctx w0 F0 L G w := ⟨[a, b], [], h⟩
theorem Ctx.sl {w0 w : World} (h : Ctx w0 F0 L G w) {v : Value} {n : Nat} {xs : List Value} (hr : Rds L G v n xs) : Sl w v n xs := by
  obtain ⟨L', G', hst⟩ := h
  have h2 : Rds (L' ++ L) (G' ++ G) v n xs := hr.mono (fun r hr => .inl (List.mem_append.2 (.inr hr))) (fun r hr => List.mem_append.2 (.inr hr))
  exact h2.sl hst
theorem Ops.yb {i : Nat} {d : Nat} {op : Op} {ps : String} {af : Array Edge} {gd : Option (Nat × Bool)} {p : Bool} (ho : Dm c i = some ⟨some d, op, ty, ps, af, gd⟩) (hw : D6 c ρ gd = true) (hd : okD n (some d) = true)
    (hS : S w) (hy : Y P S ρ op ty (.bool p)) (k : ∀ b, b = p → Ops P n c Q (i + 1) (upd ρ d (.bool b)) w) : Ops P n c Q i ρ w := Ops.y ho hw hd hS hy (k p rfl)
theorem Drw.yb {S : World → Prop} {T : List Nat} {i : Nat} {r : Tr} {d : Nat} {op : Op} {ps : String} {af : Array Edge} {gd : Option (Nat × Bool)} {p : Bool} (ho : Dm c i = some ⟨some d, op, ty, ps, af, gd⟩) (hw : D6 c ρ gd = true) (hd : okD n (some d) = true)
    (hS : S w) (hy : Y P S ρ op ty (.bool p)) (k : ∀ b, b = p → Drw P n c Q S T r (upd ρ d (.bool b)) w) : Drw P n c Q S T (.op i 0 r) ρ w := Drw.y ho hw hd hS hy (k p rfl)
theorem Y.cast {op : Op} {v v' : Value} (h : Y P S ρ op ty v) (e : v = v') : Y P S ρ op ty v' := e ▸ h
theorem Y.mv : Y P S ρ (.move x) ty (ev ρ x) := fun w _ o ho _ => by simp [execOp, ho]
theorem Y.as : Y P S ρ (.assign x) ty (ev ρ x) := fun w _ o ho _ => by simp [execOp, ho]
theorem Y.moveI {k : IntKind} {m : Int} (hx : ev ρ x = .int k m) : Y P S ρ (.move x) ty (.int k m) := hx ▸ Y.mv
theorem Y.moveB {b : Bool} (hx : ev ρ x = .bool b) : Y P S ρ (.move x) ty (.bool b) := hx ▸ Y.mv
theorem Y.moveP {b : Option Addr} (hx : ev ρ x = .pointer b) : Y P S ρ (.move x) ty (.pointer b) := hx ▸ Y.mv
theorem Y.moveS {a : Option Addr} {l c : Nat} (hx : ev ρ x = .slice a l c) : Y P S ρ (.move x) ty (.slice a l c) := hx ▸ Y.mv
theorem Y.moveT {s : ByteArray} (hx : ev ρ x = .string s) : Y P S ρ (.move x) ty (.string s) := hx ▸ Y.mv
theorem Y.moveU {vs : Array Value} (hx : ev ρ x = .tuple vs) : Y P S ρ (.move x) ty (.tuple vs) := hx ▸ Y.mv
theorem Y.assignI {k : IntKind} {m : Int} (hx : ev ρ x = .int k m) : Y P S ρ (.assign x) ty (.int k m) := hx ▸ Y.as
theorem Y.assignB {b : Bool} (hx : ev ρ x = .bool b) : Y P S ρ (.assign x) ty (.bool b) := hx ▸ Y.as
theorem Y.assignP {b : Option Addr} (hx : ev ρ x = .pointer b) : Y P S ρ (.assign x) ty (.pointer b) := hx ▸ Y.as
theorem Y.assignS {a : Option Addr} {l c : Nat} (hx : ev ρ x = .slice a l c) : Y P S ρ (.assign x) ty (.slice a l c) := hx ▸ Y.as
theorem Y.assignT {s : ByteArray} (hx : ev ρ x = .string s) : Y P S ρ (.assign x) ty (.string s) := hx ▸ Y.as
theorem Y.moveV {v : Value} (hx : ev ρ x = v) : Y P S ρ (.move x) ty v := hx ▸ Y.mv
theorem Y.assignV {v : Value} (hx : ev ρ x = v) : Y P S ρ (.assign x) ty v := hx ▸ Y.as
theorem Y.extract {vs : List Value} {i : Nat} {v : Value} (hx : ev ρ x = .tuple vs.toArray) (hv : vs[i]? = some v) : Y P S ρ (.extract x i) ty v := fun w _ o ho _ => by
  simp [execOp, ho, hx, Instr.extract, hv]
theorem Y.pick {b : Bool} {z : Operand} (v : Value) (hx : ev ρ x = .bool b) (hv : (match b with | true => ev ρ y | false => ev ρ z) = v) : Y P S ρ (.pick x y z) ty v := fun w _ o ho _ => by
  subst hv
  cases b <;> simp [execOp, ho, hx, asBool]
theorem Y.int2 {op : BinOp} {k : IntKind} {m m' : Int} {v : Value} (hx : ev ρ x = .int k m) (hy : ev ρ y = .int k m') (hr : ∀ w, (Go.binOp op t (.int k m) (.int k m')).run P w = .ok v w) : Y P S ρ (.binOp op t x y t') ty v := fun w _ o ho _ => by
  have he : ∀ w, (eqGuard op t x y (.int k m) (.int k m')).run P w = .ok () w := fun w => by unfold eqGuard; split <;> simp
  simp only [execOp, ho, hx, hy]
  simp [he, hr]
theorem Y.addI {m m' : Int} (hx : ev ρ x = .int .i64 m) (hy : ev ρ y = .int .i64 m') (hb : -9223372036854775808 ≤ m + m' ∧ m + m' ≤ 9223372036854775807) : Y P S ρ (.binOp .add t x y t') ty (.int .i64 (m + m')) :=
  Y.int2 hx hy fun w => by simp [binOp, Op.intArith, IntWalk.i64_in _ hb]
theorem Y.subI {m m' : Int} (hx : ev ρ x = .int .i64 m) (hy : ev ρ y = .int .i64 m') (hb : -9223372036854775808 ≤ m - m' ∧ m - m' ≤ 9223372036854775807) : Y P S ρ (.binOp .sub t x y t') ty (.int .i64 (m - m')) :=
  Y.int2 hx hy fun w => by simp [binOp, Op.intArith, IntWalk.i64_in _ hb]
theorem Y.mulI {m m' : Int} (hx : ev ρ x = .int .i64 m) (hy : ev ρ y = .int .i64 m') (hb : -9223372036854775808 ≤ m * m' ∧ m * m' ≤ 9223372036854775807) : Y P S ρ (.binOp .mul t x y t') ty (.int .i64 (m * m')) :=
  Y.int2 hx hy fun w => by simp [binOp, Op.intArith, IntWalk.i64_in _ hb]
theorem Y.add {k : IntKind} {m m' : Int} (hx : ev ρ x = .int k m) (hy : ev ρ y = .int k m') : Y P S ρ (.binOp .add t x y t') ty (.int k (k.wrap (m + m'))) :=
  Y.int2 hx hy fun w => by simp [binOp, Op.intArith]
theorem Y.sub {k : IntKind} {m m' : Int} (hx : ev ρ x = .int k m) (hy : ev ρ y = .int k m') : Y P S ρ (.binOp .sub t x y t') ty (.int k (k.wrap (m - m'))) :=
  Y.int2 hx hy fun w => by simp [binOp, Op.intArith]
theorem Y.mul {k : IntKind} {m m' : Int} (hx : ev ρ x = .int k m) (hy : ev ρ y = .int k m') : Y P S ρ (.binOp .mul t x y t') ty (.int k (k.wrap (m * m'))) :=
  Y.int2 hx hy fun w => by simp [binOp, Op.intArith]
theorem Y.quo {k : IntKind} {m m' : Int} (hx : ev ρ x = .int k m) (hy : ev ρ y = .int k m') (h0 : m' ≠ 0) : Y P S ρ (.binOp .quo t x y t') ty (.int k (k.wrap (m.tdiv m'))) :=
  Y.int2 hx hy fun w => by simp [binOp, Op.intDiv, h0]
theorem Y.rem {k : IntKind} {m m' : Int} (hx : ev ρ x = .int k m) (hy : ev ρ y = .int k m') (h0 : m' ≠ 0) : Y P S ρ (.binOp .rem t x y t') ty (.int k (m.tmod m')) :=
  Y.int2 hx hy fun w => by simp [binOp, Op.intDiv, h0]
theorem Y.quoI {m m' : Int} (hx : ev ρ x = .int .i64 m) (hy : ev ρ y = .int .i64 m') (h0 : 0 ≤ m ∧ m ≤ 9223372036854775807 ∧ 1 ≤ m') : Y P S ρ (.binOp .quo t x y t') ty (.int .i64 (m / m')) := by
  have := Y.quo (P := P) (S := S) (t := t) (t' := t') (ty := ty) hx hy (by omega)
  rwa [IntWalk.i64_quo _ _ h0] at this
theorem Y.remI {k : IntKind} {m m' : Int} (hx : ev ρ x = .int k m) (hy : ev ρ y = .int k m') (h0 : 0 ≤ m ∧ 1 ≤ m') : Y P S ρ (.binOp .rem t x y t') ty (.int k (m % m')) := by
  have := Y.rem (P := P) (S := S) (t := t) (t' := t') (ty := ty) hx hy (by omega)
  rwa [IntWalk.rem_in _ _ h0.1] at this
theorem Y.lss {k : IntKind} {m m' : Int} (hx : ev ρ x = .int k m) (hy : ev ρ y = .int k m') : Y P S ρ (.binOp .lss t x y t') ty (.bool (decide (m < m'))) := Y.int2 hx hy fun w => by simp [binOp, Op.intCmp]
theorem Y.leq {k : IntKind} {m m' : Int} (hx : ev ρ x = .int k m) (hy : ev ρ y = .int k m') : Y P S ρ (.binOp .leq t x y t') ty (.bool (decide (m ≤ m'))) := Y.int2 hx hy fun w => by simp [binOp, Op.intCmp]
theorem Y.gtr {k : IntKind} {m m' : Int} (hx : ev ρ x = .int k m) (hy : ev ρ y = .int k m') : Y P S ρ (.binOp .gtr t x y t') ty (.bool (decide (m > m'))) := Y.int2 hx hy fun w => by simp [binOp, Op.intCmp]
theorem Y.geq {k : IntKind} {m m' : Int} (hx : ev ρ x = .int k m) (hy : ev ρ y = .int k m') : Y P S ρ (.binOp .geq t x y t') ty (.bool (decide (m ≥ m'))) := Y.int2 hx hy fun w => by simp [binOp, Op.intCmp]
theorem Y.eql {k : IntKind} {m m' : Int} (hx : ev ρ x = .int k m) (hy : ev ρ y = .int k m') : Y P S ρ (.binOp .eql t x y t') ty (.bool (decide (m = m'))) := Y.int2 hx hy fun w => by simp [binOp, Op.intCmp]; rfl
theorem Y.neq {k : IntKind} {m m' : Int} (hx : ev ρ x = .int k m) (hy : ev ρ y = .int k m') : Y P S ρ (.binOp .neq t x y t') ty (.bool (decide (m ≠ m'))) := Y.int2 hx hy fun w => by
  have : (m != m') = decide (m ≠ m') := by by_cases h : m = m' <;> simp [h]
  simp [binOp, Op.intCmp, this]
theorem Y.bits {op : BinOp} {k : IntKind} {m m' r : Int} (hx : ev ρ x = .int k m) (hy : ev ρ y = .int k m') (hop : (match op with | .and | .or | .xor | .andNot => true | _ => false) = true) (hr : ∀ w, (Op.intBits op k m m').run P w = .ok (.int k r) w) : Y P S ρ (.binOp op t x y t') ty (.int k r) :=
  Y.int2 hx hy fun w => by cases op <;> first | (exfalso; revert hop; decide) | simp [binOp, hr]
theorem Y.and {k : IntKind} {m m' : Int} (hx : ev ρ x = .int k m) (hy : ev ρ y = .int k m') : Y P S ρ (.binOp .and t x y t') ty (.int k (k.wrap (BitVec.ofInt k.bits m &&& BitVec.ofInt k.bits m').toNat)) := Y.bits hx hy rfl fun w => by simp [Op.intBits]
theorem Y.or {k : IntKind} {m m' : Int} (hx : ev ρ x = .int k m) (hy : ev ρ y = .int k m') : Y P S ρ (.binOp .or t x y t') ty (.int k (k.wrap (BitVec.ofInt k.bits m ||| BitVec.ofInt k.bits m').toNat)) := Y.bits hx hy rfl fun w => by simp [Op.intBits]
theorem Y.xor {k : IntKind} {m m' : Int} (hx : ev ρ x = .int k m) (hy : ev ρ y = .int k m') : Y P S ρ (.binOp .xor t x y t') ty (.int k (k.wrap (BitVec.ofInt k.bits m ^^^ BitVec.ofInt k.bits m').toNat)) := Y.bits hx hy rfl fun w => by simp [Op.intBits]
theorem Y.shl {k k' : IntKind} {m m' : Int} (hx : ev ρ x = .int k m) (hy : ev ρ y = .int k' m') (h0 : 0 ≤ m') : Y P S ρ (.binOp .shl t x y t') ty (.int k (k.wrap (m * 2 ^ (min m'.toNat k.bits)))) := fun w _ o ho _ => by
  have he : ∀ w, (eqGuard .shl t x y (.int k m) (.int k' m')).run P w = .ok () w := fun w => by unfold eqGuard; simp
  have h1 : ¬ m' < 0 := by omega
  simp only [execOp, ho, hx, hy]
  simp [he, binOp, Op.shift, h1]
theorem Y.shr {k k' : IntKind} {m m' : Int} (hx : ev ρ x = .int k m) (hy : ev ρ y = .int k' m') (h0 : 0 ≤ m') : Y P S ρ (.binOp .shr t x y t') ty (.int k (m.fdiv (2 ^ (min m'.toNat k.bits)))) := fun w _ o ho _ => by
  have he : ∀ w, (eqGuard .shr t x y (.int k m) (.int k' m')).run P w = .ok () w := fun w => by unfold eqGuard; simp
  have h1 : ¬ m' < 0 := by omega
  simp only [execOp, ho, hx, hy]
  simp [he, binOp, Op.shift, h1]
theorem Y.conv {k k' : IntKind} {m : Int} (ht : P.underlying t' = some (.int k')) {d : TypeDesc} (hs : P.underlying t = some d) (hx : ev ρ x = .int k m) : Y P S ρ (.convert t t' x) ty (.int k' (k'.wrap m)) := fun w _ o ho _ => by
  simp [execOp, ho, hx, convert, run_underlying ht, run_underlying hs, Conv.intToInt]
theorem Y.not {b : Bool} (hx : ev ρ x = .bool b) : Y P S ρ (.unOp .not t x) ty (.bool (match b with | true => false | false => true)) := fun w _ o ho _ => by
  cases b <;> simp [execOp, ho, hx, Op.unary]
theorem Y.negI {m : Int} (hx : ev ρ x = .int .i64 m) (hb : -9223372036854775808 ≤ - m ∧ - m ≤ 9223372036854775807) : Y P S ρ (.unOp .neg t x) ty (.int .i64 (- m)) := fun w _ o ho _ => by
  have : IntKind.i64.wrap (0 - m) = - m := by rw [IntWalk.i64_in _ (by omega)]; omega
  simp [execOp, ho, hx, Op.unary, Op.intArith]
  simpa using this
theorem Vg (d : Nat) (ht : P.underlying t = some .bool) (a b : Bool) (w : World) : (Op.equalIn (d + 1) t (.bool a) (.bool b)).run P w = .ok (a == b) w := by
  rw [Op.equalIn]; simp [run_underlying ht]
theorem Y.neB {a b : Bool} (ht : P.underlying t = some .bool) (hx : ev ρ x = .bool a) (hy : ev ρ y = .bool b) : Y P S ρ (.binOp .neq t x y t') ty (.bool (decide (a ≠ b))) := fun w _ o ho _ => by
  have he : ∀ w, (eqGuard .neq t x y (.bool a) (.bool b)).run P w = .ok () w := fun w => by unfold eqGuard; simp
  have h2 : (Op.equal t (.bool a) (.bool b)).run P w = .ok (a == b) w := Vg 9999 ht a b w
  have h3 : (Go.binOp .neq t (.bool a) (.bool b)).run P w = .ok (.bool (decide (a ≠ b))) w := by
    have : (!(a == b)) = decide (a ≠ b) := by cases a <;> cases b <;> rfl
    unfold binOp; simp only [Sem.run_bind, h2, Result.andThen_ok]; simp only [this]; rfl
  simp only [execOp, ho, hx, hy]
  simp [he, h3]
theorem Afq (a b : ByteArray) : (a.toList == b.toList) = decide (a = b) := by
  rw [Bool.eq_iff_iff, beq_iff_eq, decide_eq_true_eq, ByteArray.toList_eq, ByteArray.toList_eq]
  constructor
  · intro h
    cases a; cases b
    congr 1
    exact Array.ext' h
  · rintro rfl; rfl
theorem Y.eqT {a b : ByteArray} (hx : ev ρ x = .string a) (hy : ev ρ y = .string b) : Y P S ρ (.binOp .eql t x y t') ty (.bool (decide (a = b))) := fun w _ o ho _ => by
  have he : ∀ w, (eqGuard .eql t x y (.string a) (.string b)).run P w = .ok () w := fun w => by unfold eqGuard; simp
  simp only [execOp, ho, hx, hy]
  simp [he, binOp, Op.stringOp, Afq]
theorem Y.nilCheck {p : Addr} (hx : ev ρ x = .pointer (some p)) : Y P S ρ (.nilCheck x) ty (.pointer (some p)) := fun w _ o ho _ => by
  simp [execOp, ho, hx]
theorem Y.isNil {p : Option Addr} {e : TypeId} (ht : P.underlying t = some (.pointer e)) (hx : ev ρ x = .pointer p) (hy : ev ρ y = .pointer none) : Y P S ρ (.binOp .eql t x y t') ty (.bool (match p with | none => true | some _ => false)) := fun w _ o ho _ => by
  have he : ∀ w, (eqGuard .eql t x y (.pointer p) (.pointer none)).run P w = .ok () w := fun w => by unfold eqGuard; simp
  have h2 : (Op.equalIn (9999 + 1) t (.pointer p) (.pointer none)).run P w = .ok p.isNone w := by
    rw [Op.equalIn]; cases p <;> simp [run_underlying ht]
  have h3 : (Go.binOp .eql t (.pointer p) (.pointer none)).run P w = .ok (.bool p.isNone) w := by
    have h4 : (Op.equal t (.pointer p) (.pointer none)).run P w = .ok p.isNone w := h2
    unfold binOp; simp only [Sem.run_bind, h4, Result.andThen_ok]; rfl
  simp only [execOp, ho, hx, hy]
  cases p <;> simp [he, h3]
theorem Y.notNil {p : Option Addr} {e : TypeId} (ht : P.underlying t = some (.pointer e)) (hx : ev ρ x = .pointer p) (hy : ev ρ y = .pointer none) : Y P S ρ (.binOp .neq t x y t') ty (.bool (match p with | none => false | some _ => true)) := fun w _ o ho _ => by
  have he : ∀ w, (eqGuard .neq t x y (.pointer p) (.pointer none)).run P w = .ok () w := fun w => by unfold eqGuard; simp
  have h2 : (Op.equalIn (9999 + 1) t (.pointer p) (.pointer none)).run P w = .ok p.isNone w := by
    rw [Op.equalIn]; cases p <;> simp [run_underlying ht]
  have h3 : (Go.binOp .neq t (.pointer p) (.pointer none)).run P w = .ok (.bool (!p.isNone)) w := by
    have h4 : (Op.equal t (.pointer p) (.pointer none)).run P w = .ok p.isNone w := h2
    unfold binOp; simp only [Sem.run_bind, h4, Result.andThen_ok]; rfl
  simp only [execOp, ho, hx, hy]
  cases p <;> simp [he, h3]
theorem Y.lenS {e : TypeId} (ht : P.underlying t = some (.slice e)) {a : Option Addr} {l cp : Nat} (hx : ev ρ x = .slice a l cp) : Y P S ρ (.call { callee := .builtin .len, args := #[x], argTypes := #[t] }) ty (.int .i64 l) := fun w _ o ho _ => by
  simp [execOp, ho, resolve, invoke, builtin, hx, Builtin.len_, Builtin.lenOf, goInt, run_underlying ht]
theorem Y.lenT (ht : P.underlying t = some .string) {s : ByteArray} (hx : ev ρ x = .string s) : Y P S ρ (.call { callee := .builtin .len, args := #[x], argTypes := #[t] }) ty (.int .i64 s.size) := fun w _ o ho _ => by
  simp [execOp, ho, resolve, invoke, builtin, hx, Builtin.len_, Builtin.lenOf, goInt, run_underlying ht]
theorem Y.fieldAddr {s f off : Nat} (hf : ∀ (a : Addr) (w : World), (Instr.fieldAt s (.pointer (some a)) f).run P w = .ok (.pointer (some (a.add off))) w) {b i : Nat} (hx : ev ρ x = .pointer (some ⟨b, i, none⟩)) : Y P S ρ (.fieldAddr s x f) ty (.pointer (some ⟨b, i + off, none⟩)) := fun w _ o ho _ => by
  simp [execOp, ho, hx, hf, B6]
theorem Y.fieldAddrP {s f off : Nat} (hf : ∀ (a : Addr) (w : World), (Instr.fieldAt s (.pointer (some a)) f).run P w = .ok (.pointer (some (a.add off))) w) {p : Addr} (hx : ev ρ x = .pointer (some p)) : Y P S ρ (.fieldAddr s x f) ty (.pointer (some (p.add off))) := fun w _ o ho _ => by
  simp [execOp, ho, hx, hf]
def elt (A : Option Addr) (i : Int) (size : Nat) : Addr := (A.getD ⟨0, 0, none⟩).add (i.toNat * size)
theorem Y.indexAddr {e : TypeId} (ht : P.underlying t = some (.slice e)) {size : Nat} (hs : ∀ w, (sizeOf e).run P w = .ok size w) {A : Option Addr} {l cp : Nat} (hx : ev ρ x = .slice A l cp) {ki : IntKind} {i : Int} (hi : ev ρ y = .int ki i) (hA : A ≠ none) (h0 : 0 ≤ i ∧ i < l) :
    Y P S ρ (.indexAddr t x y) ty (.pointer (some (elt A i size))) := fun w _ o ho _ => by
  cases A with
  | none => exact absurd rfl hA
  | some ad => simp [execOp, ho, Instr.indexAt, hx, hi, asIntOf, run_underlying ht, hs, h0.1, h0.2, elt]
theorem Y.indexAddrA {e : TypeId} {len : Nat} (ht : P.underlying t = some (.array len e)) {size : Nat} (hs : ∀ w, (sizeOf e).run P w = .ok size w) {b j : Nat} (hx : ev ρ x = .pointer (some ⟨b, j, none⟩)) {ki : IntKind} {i : Int} (hi : ev ρ y = .int ki i) (h0 : 0 ≤ i ∧ i < len) :
    Y P S ρ (.indexAddr t x y) ty (.pointer (some ⟨b, j + i.toNat * size, none⟩)) := fun w _ o ho _ => by
  simp [execOp, ho, Instr.indexAt, Instr.sureAddr, hx, hi, asIntOf, run_underlying ht, hs, h0.1, h0.2, B6]
theorem Y.loadAt {ad : Addr} (hx : ev ρ x = .pointer (some ad)) {v : Value} (hr : ∀ w, S w → (loadVar t ad).run P w = .ok v w) : Y P S ρ (.load t x) ty v := fun w hS o ho _ => by
  simp [execOp, ho, Instr.loadAt, Instr.sureAddr, hx, hr w hS]
theorem Y.load (j : Nat) (hag : ∀ w, (isAgg t).run P w = .ok false w) {b i : Nat} (hx : ev ρ x = .pointer (some ⟨b, i, none⟩)) {cs : List Value} {e : TypeId} (hL : L[j]? = some (Aa b cs e)) {v : Value} (hc : cs[i]? = some v) : Y P (Ctx w0 F0 L G) ρ (.load t x) ty v :=
  Y.loadAt hx fun w hS => C0 hag (by rw [hS.cell (.inl (List.mem_of_getElem? hL)) i, hc])
theorem Y.loadG (j : Nat) (hag : ∀ w, (isAgg t).run P w = .ok false w) {b i : Nat} (hx : ev ρ x = .pointer (some ⟨b, i, none⟩)) {cs : List Value} {e : TypeId} (hL : G[j]? = some (Aa b cs e)) {v : Value} (hc : cs[i]? = some v) : Y P (Ctx w0 F0 L G) ρ (.load t x) ty v :=
  Y.loadAt hx fun w hS => C0 hag (by rw [hS.cell (.inr (List.mem_of_getElem? hL)) i, hc])
theorem Y.loadA (j : Nat) (hag : ∀ w, (isAgg t).run P w = .ok true w) {m : Nat} (hsz : ∀ w, (sizeOf t).run P w = .ok m w) {b i : Nat} (hx : ev ρ x = .pointer (some ⟨b, i, none⟩)) {cs : List Value} {e : TypeId} (hL : L[j]? = some (Aa b cs e)) {vs : List Value} (hv : (cs.drop i).take m = vs) (hn : vs.length = m) : Y P (Ctx w0 F0 L G) ρ (.load t x) ty (.agg vs.toArray) :=
  Y.loadAt hx fun w hS => Dp hag hsz hn (by
    intro j' v h
    subst hv
    rw [B6, hS.cell (.inl (List.mem_of_getElem? hL)) (i + j')]
    rw [List.getElem?_take] at h
    split at h
    · rw [List.getElem?_drop] at h; exact h
    · cases h)
theorem Y.loadSl (hag : ∀ w, (isAgg t).run P w = .ok false w) {A : Option Addr} {i : Int} {size : Nat} (hx : ev ρ x = .pointer (some (elt A i size))) {l cp : Nat} {xs : List Value} (hr : Rds L G (.slice A l cp) l xs) {v : Value} (hc : xs[i.toNat * size]? = some v) : Y P (Ctx w0 F0 L G) ρ (.load t x) ty v :=
  Y.loadAt hx fun w hS => C0 hag (by
    obtain ⟨A', cap, he, hcap, hA⟩ := hS.sl hr
    injection he with he; subst he
    have hk : i.toNat * size < xs.length := by rcases Nat.lt_or_ge (i.toNat * size) xs.length with h | h; exact h; rw [List.getElem?_eq_none h] at hc; cases hc
    obtain ⟨ad, rfl, hc'⟩ := hA (by intro h; rw [h] at hk; simp at hk)
    show w.cell? (ad.add _) = _
    rw [hc' _ hk, hc])
theorem add_add (a : Addr) (i j : Nat) : (a.add i).add j = a.add (i + j) := by
  unfold Addr.add
  by_cases q1 : i = 0 <;> by_cases q2 : j = 0 <;> simp [q1, q2, Nat.add_assoc]
theorem Y.loadSlF (hag : ∀ w, (isAgg t).run P w = .ok false w) {A : Option Addr} {i : Int} {size off : Nat} (hx : ev ρ x = .pointer (some ((elt A i size).add off))) {l cp : Nat} {xs : List Value} (hr : Rds L G (.slice A l cp) l xs) {v : Value} (hc : xs[i.toNat * size + off]? = some v) : Y P (Ctx w0 F0 L G) ρ (.load t x) ty v :=
  Y.loadAt hx fun w hS => C0 hag (by
    obtain ⟨A', cap, he, hcap, hA⟩ := hS.sl hr
    injection he with he; subst he
    have hk : i.toNat * size + off < xs.length := by rcases Nat.lt_or_ge (i.toNat * size + off) xs.length with h | h; exact h; rw [List.getElem?_eq_none h] at hc; cases hc
    obtain ⟨ad, rfl, hc'⟩ := hA (by intro h; rw [h] at hk; simp at hk)
    show w.cell? ((ad.add _).add _) = _
    rw [add_add, hc' _ hk, hc])
theorem Y.loadSlA (hag : ∀ w, (isAgg t).run P w = .ok true w) {m : Nat} (hsz : ∀ w, (sizeOf t).run P w = .ok m w) {A : Option Addr} {i : Int} {size : Nat} (hx : ev ρ x = .pointer (some (elt A i size))) {l cp : Nat} {xs : List Value} (hr : Rds L G (.slice A l cp) l xs) {vs : List Value} (hv : (xs.drop (i.toNat * size)).take m = vs) (hn : vs.length = m) : Y P (Ctx w0 F0 L G) ρ (.load t x) ty (.agg vs.toArray) :=
  Y.loadAt hx fun w hS => Dp hag hsz hn (by
    intro j' v h
    have hjl : j' < vs.length := by rcases Nat.lt_or_ge j' vs.length with h' | h'; exact h'; rw [List.getElem?_eq_none h'] at h; cases h
    subst hv
    obtain ⟨A', cap, he, hcap, hA⟩ := hS.sl hr
    injection he with he; subst he
    rw [List.getElem?_take] at h
    split at h
    · rw [List.getElem?_drop] at h
      have hk : i.toNat * size + j' < xs.length := by rcases Nat.lt_or_ge (i.toNat * size + j') xs.length with h' | h'; exact h'; rw [List.getElem?_eq_none h'] at h; cases h
      obtain ⟨ad, rfl, hc'⟩ := hA (by intro h; rw [h] at hk; simp at hk)
      show w.cell? ((ad.add _).add _) = _
      rw [add_add, hc' _ hk, h]
    · cases h)
def At (W : World) : World → Prop := fun w => w = W
theorem at_ (w : World) : At w w := rfl
theorem Y.loadSlW (hag : ∀ w, (isAgg t).run P w = .ok false w) {A : Option Addr} {i : Int} {size : Nat} (hx : ev ρ x = .pointer (some (elt A i size))) {l cp : Nat} {xs : List Value} (hr : Sl w (.slice A l cp) l xs) {v : Value} (hc : xs[i.toNat * size]? = some v) : Y P (At w) ρ (.load t x) ty v :=
  Y.loadAt hx fun w' hS => C0 hag (by
    obtain rfl : w' = w := hS
    obtain ⟨A', cap, he, hcap, hA⟩ := hr
    injection he with he; subst he
    have hk : i.toNat * size < xs.length := by rcases Nat.lt_or_ge (i.toNat * size) xs.length with h | h; exact h; rw [List.getElem?_eq_none h] at hc; cases hc
    obtain ⟨ad, rfl, hc'⟩ := hA (by intro h; rw [h] at hk; simp at hk)
    show w'.cell? (ad.add _) = _
    rw [hc' _ hk, hc])
theorem Sl.ne {A : Option Addr} {l cp : Nat} {xs : List Value} (h : Sl w (.slice A l cp) l xs) (hx : 0 < xs.length) : A ≠ none := by
  obtain ⟨A', cap, he, _, hA⟩ := h
  injection he with he; subst he
  obtain ⟨ad, rfl, _⟩ := hA (by intro h; rw [h] at hx; simp at hx)
  simp
theorem Y.build {parts : Array (Nat × Operand)} {ps : List (Nat × Value)} {v : Value} (hp : (parts.toList.map fun x => (x.1, ev ρ x.2)) = ps) (hb : ∀ w, (Instr.build t ps.toArray).run P w = .ok v w) : Y P S ρ (.build t parts) ty v := fun w _ o ho _ => by
  have e : (parts.map fun x => (x.1, ev ρ x.2)) = ps.toArray := by subst hp; apply Array.ext'; simp
  simp [execOp, ho, e, hb]
theorem Y.field {s f : Nat} {cs : Array Value} {v : Value} (hx : ev ρ x = .agg cs) (hf : ∀ w, (Instr.field s (.agg cs) f).run P w = .ok v w) : Y P S ρ (.field s x f) ty v := fun w _ o ho _ => by
  simp [execOp, ho, hx, hf]
theorem X.of {K : Value → World → Prop} {op : Op} (h : ∀ (a : Act) (ops : Array Oper) (Q : Exit → Act → World → Prop) (o : Oper), o.op = op → o.type = ty → a.eval = ev ρ → Region.wanted o (yielded ops a.tmps) = true →
    opK P ops Q o (fun a' w' => ∃ v, a' = a.put o.dst v ∧ K v w') a w) : X P ρ w op ty K := h
theorem X.box (hst : St w0 F0 w L G) {e : TypeId} {v : Value} (hx : ev ρ x = v) {cs : List Value} (hcs : v.cells.toList = cs) {K : Value → World → Prop} (k : ∀ b w', St w0 F0 w' (Aa b cs e :: L) G → K (.pointer (some ⟨b, 0, none⟩)) w') : X P ρ w (.box e x) ty K := by
  subst hx; subst hcs
  intro a ops Q o ho _ ha hw
  refine Bt6 hst hw ho ?_
  intro b w' h
  rw [ha] at h
  exact ⟨_, rfl, k b w' h⟩
theorem X.alloc (hst : St w0 F0 w L G) {e : TypeId} {z : Value} (hz : ∀ w, (zeroValue e).run P w = .ok z w) {cs : List Value} (hcs : z.cells.toList = cs) {K : Value → World → Prop} (k : ∀ b w', St w0 F0 w' (Aa b cs e :: L) G → K (.pointer (some ⟨b, 0, none⟩)) w') : X P ρ w (.alloc e) ty K := by
  subst hcs
  intro a ops Q o ho _ ha hw
  refine Be0 hst hw ho hz ?_
  intro b w' h
  exact ⟨_, rfl, k b w' h⟩
theorem X.box1 (hst : St w0 F0 w L G) {e : TypeId} (v : Value) (hx : ev ρ x = v) (h1 : v.oneCell' = true) {K : Value → World → Prop} (k : ∀ b w', St w0 F0 w' (Aa b [v] e :: L) G → K (.pointer (some ⟨b, 0, none⟩)) w') : X P ρ w (.box e x) ty K := X.box hst hx (by rw [G9 h1]) k
theorem X.alloc1 (hst : St w0 F0 w L G) {e : TypeId} {z : Value} (hz : ∀ w, (zeroValue e).run P w = .ok z w) (h1 : z.oneCell' = true) {K : Value → World → Prop} (k : ∀ b w', St w0 F0 w' (Aa b [z] e :: L) G → K (.pointer (some ⟨b, 0, none⟩)) w') : X P ρ w (.alloc e) ty K := X.alloc hst hz (by rw [G9 h1]) k
theorem X.boxA (hst : St w0 F0 w L G) {e : TypeId} {vs : List Value} (hx : ev ρ x = .agg vs.toArray) {K : Value → World → Prop} (k : ∀ b w', St w0 F0 w' (Aa b vs e :: L) G → K (.pointer (some ⟨b, 0, none⟩)) w') : X P ρ w (.box e x) ty K := X.box hst hx (by simp [Value.cells]) k
theorem X.allocA (hst : St w0 F0 w L G) {e : TypeId} {vs : List Value} (hz : ∀ w, (zeroValue e).run P w = .ok (.agg vs.toArray) w) {K : Value → World → Prop} (k : ∀ b w', St w0 F0 w' (Aa b vs e :: L) G → K (.pointer (some ⟨b, 0, none⟩)) w') : X P ρ w (.alloc e) ty K := X.alloc hst hz (by simp [Value.cells]) k
theorem X.lits (hst : St w0 F0 w L G) {e : TypeId} {m : Nat} {parts : Array (Nat × Operand)} (ht : P.underlying t = some (.slice e)) (hs : ∀ w, (sizeOf e).run P w = .ok 1 w) {z : Value} (hz : ∀ w, (zeroValue e).run P w = .ok z w)
    (hi : (parts.toList.map (·.1) == List.range' 0 parts.toList.length) = true) (hn : parts.toList.length = m) (hl : Nat.ble m 16777216 = true)
    (vs : List Value) (hp : (parts.toList.map fun x => ev ρ x.2) = vs) (h1 : Om vs = true)
    {K : Value → World → Prop} (k : ∀ b w', St w0 F0 w' (Aa b vs e :: L) G → K (.slice (some ⟨b, 0, none⟩) m m) w') : X P ρ w (.buildSlice t m parts) ty K := by
  intro a ops Q o ho _ ha hw
  refine Be1 hst hw ho hi hn ht hs hz (Nat.le_of_ble_eq_true hl) (by rw [ha]; exact hp) h1 ?_
  intro b w' h
  exact ⟨_, rfl, k b w' h⟩
theorem X.store (hst : St w0 F0 w L G) (j : Nat) (hsz1 : ∀ w, (sizeOf t).run P w = .ok 1 w) {b i : Nat} (hx : ev ρ x = .pointer (some ⟨b, i, none⟩)) {cs : List Value} {e : TypeId} (hL : L[j]? = some (Aa b cs e)) {v : Value} (hy : ev ρ y = v) (h1 : v.oneCell' = true) (hi : i < cs.length) {cs' : List Value} (hcs : cs.set i v = cs') {L' : List Res} (hL' : L.set j (Aa b cs' e) = L')
    {K : Value → World → Prop} (k : ∀ w', St w0 F0 w' L' G → K undef w') : X P ρ w (.store t x y) ty K := by
  subst hcs; subst hL'
  intro a ops Q o ho _ ha hw
  refine As2 hst j hw ho (by rw [ha]; exact hx) hL (by rw [ha]; exact hy) hsz1 h1 hi ?_
  intro w' h
  exact ⟨_, rfl, k w' h⟩
theorem X.storeV (hst : St w0 F0 w L G) (j : Nat) (v : Value) (hsz1 : ∀ w, (sizeOf t).run P w = .ok 1 w) {b i : Nat} (hx : ev ρ x = .pointer (some ⟨b, i, none⟩)) {cs : List Value} {e : TypeId} (hL : L[j]? = some (Aa b cs e)) (hy : ev ρ y = v) (h1 : v.oneCell' = true) (hi : i < cs.length) {cs' : List Value} (hcs : cs.set i v = cs') {L' : List Res} (hL' : L.set j (Aa b cs' e) = L')
    {K : Value → World → Prop} (k : ∀ w', St w0 F0 w' L' G → K undef w') : X P ρ w (.store t x y) ty K := X.store hst j hsz1 hx hL hy h1 hi hcs hL' k
theorem X.storeS (hst : St w0 F0 w L G) (j : Nat) {m : Nat} (hsz : ∀ w, (sizeOf t).run P w = .ok m w) {b i : Nat} (hx : ev ρ x = .pointer (some ⟨b, i, none⟩)) {cs : List Value} {e : TypeId} (hL : L[j]? = some (Aa b cs e)) {vs : List Value} (hy : ev ρ y = .agg vs.toArray) (hm : vs.length = m) (h1 : Om vs = true) (hi : i + m ≤ cs.length) {cs' : List Value} (hcs : splice cs i vs = cs') {L' : List Res} (hL' : L.set j (Aa b cs' e) = L')
    {K : Value → World → Prop} (k : ∀ w', St w0 F0 w' L' G → K undef w') : X P ρ w (.store t x y) ty K := by
  subst hcs; subst hL'; subst hm
  intro a ops Q o ho _ ha hw
  have hones : ∀ (l : List Value), Om l = true → ∀ u ∈ l, u.oneCell' = true := by
    intro l
    induction l with
    | nil => intro _ u hu; cases hu
    | cons v l ih =>
      intro h u hu
      have h2 : v.oneCell' = true ∧ Om l = true := by simpa [Om] using h
      rcases List.mem_cons.1 hu with rfl | hu
      · exact h2.1
      · exact ih h2.2 u hu
  refine Ak5 hst j hw ho (by rw [ha]; exact hx) hL (v := .agg vs.toArray) (by rw [ha]; exact hy) hsz hi (by simpa [Value.cells] using hones vs h1) ?_
  intro w' h
  exact ⟨_, rfl, k w' h⟩
theorem X.call {f : FuncId} {xs : Array Operand} {tys : Array TypeId} (hfc : ∀ args w, (callFunc f args).run P w = .ok (.enter f args) w) {vs : List Value} (hv : (xs.toList.map (ev ρ)) = vs) {K : Value → World → Prop} (hc : Calls P f vs.toArray w (fun e w' => ∃ v, e = .returned v ∧ K v w')) :
    X P ρ w (.call { callee := .value (.func f), args := xs, argTypes := tys }) ty K := by
  subst hv
  intro a ops Q o ho _ ha hw
  refine S4 hw (by rw [show execOp a.eval o = callFunc f (#[] ++ xs.map a.eval ++ #[]) by rcases o with ⟨_, _, _, _, _, _⟩; simp only at ho; subst ho; rfl, hfc]) (R := fun e w' => ∃ v, e = .returned v ∧ K v w') ?_ ?_
  · have e : #[] ++ xs.map a.eval ++ #[] = (xs.toList.map (ev ρ)).toArray := by
      rw [ha]; apply Array.ext'; simp
    rw [e]
    exact hc
  · rintro e w' ⟨v, rfl, h⟩
    exact ⟨v, rfl, v, rfl, h⟩
end
theorem dF {p : Prop} [Decidable p] (h : false = decide p) : ¬ p := of_decide_eq_false h.symm
theorem dT {p : Prop} [Decidable p] (h : true = decide p) : p := of_decide_eq_true h.symm
def CF (f : FuncId) : Prop := ∀ args w, (callFunc f args).run Tryz.prog w = .ok (.enter f args) w
def FA (t f o : Nat) : Prop := ∀ (a : Addr) (w : World), (Instr.fieldAt t (.pointer (some a)) f).run Tryz.prog w = .ok (.pointer (some (a.add o))) w
def opq (c : Code) (n : Fr) (ρ : Env) (i : Nat) : Option (Option Nat × Op × TypeId) := match Dm c i with
  | some o => (match D6 c ρ o.guard && okD n o.dst with
    | true => some (o.dst, o.op, o.type)
    | false => none)
  | none => none
def opz (c : Code) (n : Fr) (ρ : Env) (i : Nat) : Option (Option Nat) := match Dm c i with
  | some o => (match !D6 c ρ o.guard && okD n o.dst with
    | true => some o.dst
    | false => none)
  | none => none
section
variable {P : Program} {c : Code} {n : Fr} {ρ : Env} {i : Nat} {d : Option Nat} {op : Op} {ty : TypeId} {Q : Ez} {w w0 : World} {F0 : List Nat} {L G : List Res} {T : List Nat} {r : Tr} {S : World → Prop}
theorem J9 (h : opq c n ρ i = some (d, op, ty)) : ∃ ps af gd, Dm c i = some ⟨d, op, ty, ps, af, gd⟩ ∧ D6 c ρ gd = true ∧ okD n d = true := by
  unfold opq at h
  cases ho : Dm c i with
  | none => rw [ho] at h; cases h
  | some o =>
    rw [ho] at h
    dsimp only at h
    cases hb : (D6 c ρ o.guard && okD n o.dst) with
    | false => rw [hb] at h; cases h
    | true =>
      rw [hb] at h
      injection h with h
      rw [Bool.and_eq_true] at hb
      obtain ⟨d', op', ty', ps, af, gd⟩ := o
      simp only [Prod.mk.injEq] at h
      obtain ⟨rfl, rfl, rfl⟩ := h
      exact ⟨ps, af, gd, rfl, hb.1, hb.2⟩
theorem Ajz (h : opz c n ρ i = some d) : ∃ op ty ps af gd, Dm c i = some ⟨d, op, ty, ps, af, gd⟩ ∧ D6 c ρ gd = false ∧ okD n d = true := by
  unfold opz at h
  cases ho : Dm c i with
  | none => rw [ho] at h; cases h
  | some o =>
    rw [ho] at h
    dsimp only at h
    cases hb : (!D6 c ρ o.guard && okD n o.dst) with
    | false => rw [hb] at h; cases h
    | true =>
      rw [hb] at h
      injection h with h
      rw [Bool.and_eq_true, Bool.not_eq_true'] at hb
      obtain ⟨d', op', ty', ps, af, gd⟩ := o
      dsimp only at h
      subst h
      exact ⟨op', ty', ps, af, gd, rfl, hb.1, hb.2⟩
theorem Ops.nn (h : opz c n ρ i = some d) (k : Ops P n c Q (i + 1) (putE ρ d undef) w) : Ops P n c Q i ρ w := by
  obtain ⟨op, ty, ps, af, gd, ho, hw, hd⟩ := Ajz h
  exact Ops.no ho hw hd k
theorem Ops.ww (h : opq c n ρ i = some (d, op, ty)) (hx : X P ρ w op ty (fun v w' => Ops P n c Q (i + 1) (putE ρ d v) w')) : Ops P n c Q i ρ w := by
  obtain ⟨ps, af, gd, ho, hw, hd⟩ := J9 h
  exact Ops.x ho hw hd hx
theorem Drw.ww (h : opq c n ρ i = some (d, op, ty)) (hx : X P ρ w op ty (fun v w' => S w' ∧ Drw P n c Q S T r (putE ρ d v) w')) : Drw P n c Q S T (.op i 1 r) ρ w := by
  obtain ⟨ps, af, gd, ho, hw, hd⟩ := J9 h
  exact Drw.x ho hw hd hx
theorem One.ww (h : opq c n ρ i = some (d, op, ty)) (hx : X P ρ w op ty (fun v w' => S w' ∧ Drw P n c Q S T r (putE ρ d v) w')) : One P n c Q S T i r ρ w := by
  obtain ⟨ps, af, gd, ho, hw, hd⟩ := J9 h
  exact One.x ho hw hd hx
theorem Drw.q {d : Nat} {v : Value} (h : opq c n ρ i = some (some d, op, ty)) (hS : S w) (hy : Y P S ρ op ty v) (k : Drw P n c Q S T r (upd ρ d v) w) : Drw P n c Q S T (.op i 0 r) ρ w := by
  obtain ⟨ps, af, gd, ho, hw, hd⟩ := J9 h
  exact Drw.y ho hw hd hS hy k
theorem St.y (hst : St w0 F0 w L G) {d : Nat} {v : Value} (h : opq c n ρ i = some (some d, op, ty)) (hy : Y P (Ctx w0 F0 L G) ρ op ty v) (k : Ops P n c Q (i + 1) (upd ρ d v) w) : Ops P n c Q i ρ w := by
  obtain ⟨ps, af, gd, ho, hw, hd⟩ := J9 h
  exact Ops.y ho hw hd hst.ctx hy k
theorem St.yb (hst : St w0 F0 w L G) {d : Nat} {q : Bool} (h : opq c n ρ i = some (some d, op, ty)) (hy : Y P (Ctx w0 F0 L G) ρ op ty (.bool q)) (k : ∀ b, b = q → Ops P n c Q (i + 1) (upd ρ d (.bool b)) w) : Ops P n c Q i ρ w := by
  obtain ⟨ps, af, gd, ho, hw, hd⟩ := J9 h
  exact Ops.yb ho hw hd hst.ctx hy k
theorem St.z (hst : St w0 F0 w L G) {d : Nat} {v : Value} (h : opq c n ρ i = some (some d, op, ty)) (hy : Y P (Ctx w0 F0 L G) ρ op ty v) (k : Drw P n c Q (Ctx w0 F0 L G) T r (upd ρ d v) w) : Drw P n c Q (Ctx w0 F0 L G) T (.op i 0 r) ρ w := by
  obtain ⟨ps, af, gd, ho, hw, hd⟩ := J9 h
  exact Drw.y ho hw hd hst.ctx hy k
theorem W.sr (h : (tag c, tag (cA c)) = (3, 1)) (k : Ops P n (cA c) (Uy (fun ρ w => W P n (cB c) Q ρ w) Q) 0 ρ w) : W P n c Q ρ w := by
  injection h with h1 h2
  exact W.seq h1 (W.region h2 k)
theorem Ops.ds {c' : Code} {Q' : Ez} (ho : Dm c i = none) (h : (tag c', tag (cA c')) = (3, 1)) (k : Ops P n (cA c') (Uy (fun ρ w => W P n (cB c') Q' ρ w) Q') 0 ρ w) : Ops P n c (Uy (fun ρ w => W P n c' Q' ρ w) Q) i ρ w :=
  Ops.done ho (W.sr h k)
def T0 : List Nat → Tr → Tr
  | [], r => r
  | i :: l, r => .op i 0 (T0 l r)
def T1 : List Nat → Tr → Tr
  | [], r => r
  | i :: l, r => .op i 1 (T1 l r)
theorem St.cxz (h : St w0 F0 w L G) (m : Nat) : Ctx w0 F0 (L.drop m) G w := ⟨L.take m, [], by rw [List.take_append_drop]; exact h⟩
theorem St.dw (hst : St w0 F0 w L G) (m : Nat) (T : List Nat) (ord : Tr) (ht : tag c = 2) (hm : P.follows .mixedOrders = true) (hl : ord.fuel = (D2 c).size) (hc : (Region.noSelect (D2 c) && chk (D2 c) T false ord (Array.replicate ord.fuel false)) = true)
    (k : ∀ wd, St w0 F0 wd L G → Drw P n c Q (Ctx w0 F0 (L.drop m) G) T ord ρ wd) : W P n c Q ρ w := W.drawn ht hm _ T ord hl hc (hst.drew.cxz m) (k _ hst.drew)
theorem St.dv (hst : St w0 F0 w L G) (T : List Nat) (ord : Tr) (ht : tag c = 2) (hm : P.follows .mixedOrders = true) (hl : ord.fuel = (D2 c).size) (hc : (Region.noSelect (D2 c) && chk (D2 c) T false ord (Array.replicate ord.fuel false)) = true)
    (k : ∀ wd, St w0 F0 wd L G → Drw P n c Q (Ctx w0 F0 L G) T ord ρ wd) : W P n c Q ρ w := W.drawn ht hm _ T ord hl hc hst.drew.ctx (k _ hst.drew)
theorem Y.pB {S : World → Prop} {x y z : Operand} {b v : Bool} (hx : ev ρ x = .bool b) (hv : (match b with | true => ev ρ y | false => ev ρ z) = .bool v) : Y P S ρ (.pick x y z) ty (.bool v) := by
  cases b
  · exact Y.pick (b := false) (.bool v) hx hv
  · exact Y.pick (b := true) (.bool v) hx hv
theorem lZ {a b : Nat} (h : Nat.ble a b = true) : a ≤ b := Nat.le_of_ble_eq_true h
-- combined
theorem St.u (hst : St w0 F0 w L G) {d : Nat} {x : Operand} {k' : IntKind} {m : Int} (h : opq c n ρ i = some (some d, .move x, ty)) (hx : ev ρ x = .int k' m) (k : Ops P n c Q (i + 1) (upd ρ d (.int k' m)) w) : Ops P n c Q i ρ w := hst.y h (Y.moveI hx) k
theorem St.zu (hst : St w0 F0 w L G) {d : Nat} {x : Operand} {k' : IntKind} {m : Int} (h : opq c n ρ i = some (some d, .move x, ty)) (hx : ev ρ x = .int k' m) (k : Drw P n c Q (Ctx w0 F0 L G) T r (upd ρ d (.int k' m)) w) : Drw P n c Q (Ctx w0 F0 L G) T (.op i 0 r) ρ w := hst.z h (Y.moveI hx) k
theorem St.a (hst : St w0 F0 w L G) {d : Nat} {x : Operand} {k' : IntKind} {m : Int} (h : opq c n ρ i = some (some d, .assign x, ty)) (hx : ev ρ x = .int k' m) (k : Ops P n c Q (i + 1) (upd ρ d (.int k' m)) w) : Ops P n c Q i ρ w := hst.y h (Y.assignI hx) k
theorem St.za (hst : St w0 F0 w L G) {d : Nat} {x : Operand} {k' : IntKind} {m : Int} (h : opq c n ρ i = some (some d, .assign x, ty)) (hx : ev ρ x = .int k' m) (k : Drw P n c Q (Ctx w0 F0 L G) T r (upd ρ d (.int k' m)) w) : Drw P n c Q (Ctx w0 F0 L G) T (.op i 0 r) ρ w := hst.z h (Y.assignI hx) k
theorem St.b (hst : St w0 F0 w L G) {d : Nat} {x : Operand} {b : Bool} (h : opq c n ρ i = some (some d, .move x, ty)) (hx : ev ρ x = .bool b) (k : Ops P n c Q (i + 1) (upd ρ d (.bool b)) w) : Ops P n c Q i ρ w := hst.y h (Y.moveB hx) k
theorem St.zb (hst : St w0 F0 w L G) {d : Nat} {x : Operand} {b : Bool} (h : opq c n ρ i = some (some d, .move x, ty)) (hx : ev ρ x = .bool b) (k : Drw P n c Q (Ctx w0 F0 L G) T r (upd ρ d (.bool b)) w) : Drw P n c Q (Ctx w0 F0 L G) T (.op i 0 r) ρ w := hst.z h (Y.moveB hx) k
theorem St.g (hst : St w0 F0 w L G) {d : Nat} {x : Operand} {b : Bool} (h : opq c n ρ i = some (some d, .assign x, ty)) (hx : ev ρ x = .bool b) (k : Ops P n c Q (i + 1) (upd ρ d (.bool b)) w) : Ops P n c Q i ρ w := hst.y h (Y.assignB hx) k
theorem St.zg (hst : St w0 F0 w L G) {d : Nat} {x : Operand} {b : Bool} (h : opq c n ρ i = some (some d, .assign x, ty)) (hx : ev ρ x = .bool b) (k : Drw P n c Q (Ctx w0 F0 L G) T r (upd ρ d (.bool b)) w) : Drw P n c Q (Ctx w0 F0 L G) T (.op i 0 r) ρ w := hst.z h (Y.assignB hx) k
theorem St.p (hst : St w0 F0 w L G) {d : Nat} {x : Operand} {b : Option Addr} (h : opq c n ρ i = some (some d, .move x, ty)) (hx : ev ρ x = .pointer b) (k : Ops P n c Q (i + 1) (upd ρ d (.pointer b)) w) : Ops P n c Q i ρ w := hst.y h (Y.moveP hx) k
theorem St.zp (hst : St w0 F0 w L G) {d : Nat} {x : Operand} {b : Option Addr} (h : opq c n ρ i = some (some d, .move x, ty)) (hx : ev ρ x = .pointer b) (k : Drw P n c Q (Ctx w0 F0 L G) T r (upd ρ d (.pointer b)) w) : Drw P n c Q (Ctx w0 F0 L G) T (.op i 0 r) ρ w := hst.z h (Y.moveP hx) k
theorem St.s (hst : St w0 F0 w L G) {d : Nat} {x : Operand} {a : Option Addr} {l' c' : Nat} (h : opq c n ρ i = some (some d, .move x, ty)) (hx : ev ρ x = .slice a l' c') (k : Ops P n c Q (i + 1) (upd ρ d (.slice a l' c')) w) : Ops P n c Q i ρ w := hst.y h (Y.moveS hx) k
theorem St.zs (hst : St w0 F0 w L G) {d : Nat} {x : Operand} {a : Option Addr} {l' c' : Nat} (h : opq c n ρ i = some (some d, .move x, ty)) (hx : ev ρ x = .slice a l' c') (k : Drw P n c Q (Ctx w0 F0 L G) T r (upd ρ d (.slice a l' c')) w) : Drw P n c Q (Ctx w0 F0 L G) T (.op i 0 r) ρ w := hst.z h (Y.moveS hx) k
theorem St.t (hst : St w0 F0 w L G) {d : Nat} {x : Operand} {p : Addr} (h : opq c n ρ i = some (some d, .nilCheck x, ty)) (hx : ev ρ x = .pointer (some p)) (k : Ops P n c Q (i + 1) (upd ρ d (.pointer (some p))) w) : Ops P n c Q i ρ w := hst.y h (Y.nilCheck hx) k
theorem St.zt (hst : St w0 F0 w L G) {d : Nat} {x : Operand} {p : Addr} (h : opq c n ρ i = some (some d, .nilCheck x, ty)) (hx : ev ρ x = .pointer (some p)) (k : Drw P n c Q (Ctx w0 F0 L G) T r (upd ρ d (.pointer (some p))) w) : Drw P n c Q (Ctx w0 F0 L G) T (.op i 0 r) ρ w := hst.z h (Y.nilCheck hx) k
theorem St.f (hst : St w0 F0 w L G) {d : Nat} {x : Operand} {s f off : Nat} (hf : FA s f off) {b i' : Nat} (h : opq c n ρ i = some (some d, .fieldAddr s x f, ty)) (hx : ev ρ x = .pointer (some ⟨b, i', none⟩)) (k : Ops Tryz.prog n c Q (i + 1) (upd ρ d (.pointer (some ⟨b, i' + off, none⟩))) w) : Ops Tryz.prog n c Q i ρ w := hst.y h (Y.fieldAddr hf hx) k
theorem St.zf (hst : St w0 F0 w L G) {d : Nat} {x : Operand} {s f off : Nat} (hf : FA s f off) {b i' : Nat} (h : opq c n ρ i = some (some d, .fieldAddr s x f, ty)) (hx : ev ρ x = .pointer (some ⟨b, i', none⟩)) (k : Drw Tryz.prog n c Q (Ctx w0 F0 L G) T r (upd ρ d (.pointer (some ⟨b, i' + off, none⟩))) w) : Drw Tryz.prog n c Q (Ctx w0 F0 L G) T (.op i 0 r) ρ w := hst.z h (Y.fieldAddr hf hx) k
theorem St.l (hst : St w0 F0 w L G) {d : Nat} {x : Operand} (j : Nat) {b i' : Nat} {cs : List Value} {e : TypeId} {v : Value} (h : opq c n ρ i = some (some d, .load 3 x, ty)) (hx : ev ρ x = .pointer (some ⟨b, i', none⟩)) (hL : L[j]? = some (Aa b cs e)) (hc : cs[i']? = some v) (k : Ops Tryz.prog n c Q (i + 1) (upd ρ d (v)) w) : Ops Tryz.prog n c Q i ρ w := hst.y h (Y.load j Tryz.isAgg3 hx hL hc) k
theorem St.zl (hst : St w0 F0 w L G) {d : Nat} {x : Operand} (j : Nat) {b i' : Nat} {cs : List Value} {e : TypeId} {v : Value} (h : opq c n ρ i = some (some d, .load 3 x, ty)) (hx : ev ρ x = .pointer (some ⟨b, i', none⟩)) (hL : L[j]? = some (Aa b cs e)) (hc : cs[i']? = some v) (k : Drw Tryz.prog n c Q (Ctx w0 F0 L G) T r (upd ρ d (v)) w) : Drw Tryz.prog n c Q (Ctx w0 F0 L G) T (.op i 0 r) ρ w := hst.z h (Y.load j Tryz.isAgg3 hx hL hc) k
theorem St.q (hst : St w0 F0 w L G) {d : Nat} {x : Operand} {t : TypeId} {b : Bool} (h : opq c n ρ i = some (some d, .unOp .not t x, ty)) (hx : ev ρ x = .bool b) (k : Ops P n c Q (i + 1) (upd ρ d (.bool (match b with | true => false | false => true))) w) : Ops P n c Q i ρ w := hst.y h (Y.not hx) k
theorem St.zq (hst : St w0 F0 w L G) {d : Nat} {x : Operand} {t : TypeId} {b : Bool} (h : opq c n ρ i = some (some d, .unOp .not t x, ty)) (hx : ev ρ x = .bool b) (k : Drw P n c Q (Ctx w0 F0 L G) T r (upd ρ d (.bool (match b with | true => false | false => true))) w) : Drw P n c Q (Ctx w0 F0 L G) T (.op i 0 r) ρ w := hst.z h (Y.not hx) k
theorem St.e (hst : St w0 F0 w L G) {d : Nat} {x : Operand} {vs : List Value} {i' : Nat} {v : Value} (h : opq c n ρ i = some (some d, .extract x i', ty)) (hx : ev ρ x = .tuple vs.toArray) (hv : vs[i']? = some v) (k : Ops P n c Q (i + 1) (upd ρ d (v)) w) : Ops P n c Q i ρ w := hst.y h (Y.extract hx hv) k
theorem St.ze (hst : St w0 F0 w L G) {d : Nat} {x : Operand} {vs : List Value} {i' : Nat} {v : Value} (h : opq c n ρ i = some (some d, .extract x i', ty)) (hx : ev ρ x = .tuple vs.toArray) (hv : vs[i']? = some v) (k : Drw P n c Q (Ctx w0 F0 L G) T r (upd ρ d (v)) w) : Drw P n c Q (Ctx w0 F0 L G) T (.op i 0 r) ρ w := hst.z h (Y.extract hx hv) k
theorem St.j (hst : St w0 F0 w L G) {d : Nat} {x y : Operand} {t t' : TypeId} {m m' : Int} (h : opq c n ρ i = some (some d, .binOp .add t x y t', ty)) (hx : ev ρ x = .int .i64 m) (hy : ev ρ y = .int .i64 m') (hb : -9223372036854775808 ≤ m + m' ∧ m + m' ≤ 9223372036854775807) (k : Ops P n c Q (i + 1) (upd ρ d (.int .i64 (m + m'))) w) : Ops P n c Q i ρ w := hst.y h (Y.addI hx hy hb) k
theorem St.zj (hst : St w0 F0 w L G) {d : Nat} {x y : Operand} {t t' : TypeId} {m m' : Int} (h : opq c n ρ i = some (some d, .binOp .add t x y t', ty)) (hx : ev ρ x = .int .i64 m) (hy : ev ρ y = .int .i64 m') (hb : -9223372036854775808 ≤ m + m' ∧ m + m' ≤ 9223372036854775807) (k : Drw P n c Q (Ctx w0 F0 L G) T r (upd ρ d (.int .i64 (m + m'))) w) : Drw P n c Q (Ctx w0 F0 L G) T (.op i 0 r) ρ w := hst.z h (Y.addI hx hy hb) k
theorem St.fp (hst : St w0 F0 w L G) {d : Nat} {x : Operand} {s f off : Nat} (hf : FA s f off) {p : Addr} (h : opq c n ρ i = some (some d, .fieldAddr s x f, ty)) (hx : ev ρ x = .pointer (some p)) (k : Ops Tryz.prog n c Q (i + 1) (upd ρ d (.pointer (some (p.add off)))) w) : Ops Tryz.prog n c Q i ρ w := hst.y h (Y.fieldAddrP hf hx) k
theorem St.zfp (hst : St w0 F0 w L G) {d : Nat} {x : Operand} {s f off : Nat} (hf : FA s f off) {p : Addr} (h : opq c n ρ i = some (some d, .fieldAddr s x f, ty)) (hx : ev ρ x = .pointer (some p)) (k : Drw Tryz.prog n c Q (Ctx w0 F0 L G) T r (upd ρ d (.pointer (some (p.add off)))) w) : Drw Tryz.prog n c Q (Ctx w0 F0 L G) T (.op i 0 r) ρ w := hst.z h (Y.fieldAddrP hf hx) k
theorem St.k (hst : St w0 F0 w L G) {d : Nat} {x y z : Operand} {b v : Bool} (h : opq c n ρ i = some (some d, .pick x y z, ty)) (hx : ev ρ x = .bool b) (hv : (match b with | true => ev ρ y | false => ev ρ z) = .bool v) (k : Ops P n c Q (i + 1) (upd ρ d (.bool v)) w) : Ops P n c Q i ρ w := hst.y h (Y.pB hx hv) k
theorem St.zk (hst : St w0 F0 w L G) {d : Nat} {x y z : Operand} {b v : Bool} (h : opq c n ρ i = some (some d, .pick x y z, ty)) (hx : ev ρ x = .bool b) (hv : (match b with | true => ev ρ y | false => ev ρ z) = .bool v) (k : Drw P n c Q (Ctx w0 F0 L G) T r (upd ρ d (.bool v)) w) : Drw P n c Q (Ctx w0 F0 L G) T (.op i 0 r) ρ w := hst.z h (Y.pB hx hv) k
theorem St.v (hst : St w0 F0 w L G) {d : Nat} {x y : Operand} {t t' : TypeId} {k' : IntKind} {m m' : Int} (h : opq c n ρ i = some (some d, .binOp .lss t x y t', ty)) (hx : ev ρ x = .int k' m) (hy : ev ρ y = .int k' m') (k : ∀ b, b = decide (m < m') → Ops P n c Q (i + 1) (upd ρ d (.bool b)) w) : Ops P n c Q i ρ w := hst.yb h (Y.lss hx hy) k
theorem St.V (hst : St w0 F0 w L G) {d : Nat} {x y : Operand} {t t' : TypeId} {k' : IntKind} {m m' : Int} (h : opq c n ρ i = some (some d, .binOp .gtr t x y t', ty)) (hx : ev ρ x = .int k' m) (hy : ev ρ y = .int k' m') (k : ∀ b, b = decide (m > m') → Ops P n c Q (i + 1) (upd ρ d (.bool b)) w) : Ops P n c Q i ρ w := hst.yb h (Y.gtr hx hy) k
theorem St.W (hst : St w0 F0 w L G) {d : Nat} {x y : Operand} {t t' : TypeId} {k' : IntKind} {m m' : Int} (h : opq c n ρ i = some (some d, .binOp .geq t x y t', ty)) (hx : ev ρ x = .int k' m) (hy : ev ρ y = .int k' m') (k : ∀ b, b = decide (m ≥ m') → Ops P n c Q (i + 1) (upd ρ d (.bool b)) w) : Ops P n c Q i ρ w := hst.yb h (Y.geq hx hy) k
theorem St.X (hst : St w0 F0 w L G) {d : Nat} {x y : Operand} {t t' : TypeId} {k' : IntKind} {m m' : Int} (h : opq c n ρ i = some (some d, .binOp .leq t x y t', ty)) (hx : ev ρ x = .int k' m) (hy : ev ρ y = .int k' m') (k : ∀ b, b = decide (m ≤ m') → Ops P n c Q (i + 1) (upd ρ d (.bool b)) w) : Ops P n c Q i ρ w := hst.yb h (Y.leq hx hy) k
theorem St.Y (hst : St w0 F0 w L G) {d : Nat} {x y : Operand} {t t' : TypeId} {k' : IntKind} {m m' : Int} (h : opq c n ρ i = some (some d, .binOp .eql t x y t', ty)) (hx : ev ρ x = .int k' m) (hy : ev ρ y = .int k' m') (k : ∀ b, b = decide (m = m') → Ops P n c Q (i + 1) (upd ρ d (.bool b)) w) : Ops P n c Q i ρ w := hst.yb h (Y.eql hx hy) k
theorem Oc {f : FuncId} {xs : Array Operand} {tys : Array TypeId} (h : opq c n ρ i = some (d, .call { callee := .value (.func f), args := xs, argTypes := tys }, ty)) (hf : ∀ args w, (callFunc f args).run P w = .ok (.enter f args) w) {vs : List Value} (hv : (xs.toList.map (ev ρ)) = vs) (hc : Calls P f vs.toArray w (fun e w' => ∃ v, e = .returned v ∧ Ops P n c Q (i + 1) (putE ρ d v) w')) : Ops P n c Q i ρ w := Ops.ww h (X.call hf hv hc)
theorem Xl (hst : St w0 F0 w L G) {m : Nat} {parts : Array (Nat × Operand)} (hi : (parts.toList.map (·.1) == List.range' 0 parts.toList.length) = true) (hn : parts.toList.length = m) (hl : Nat.ble m 16777216 = true) (vs : List Value) (hp : (parts.toList.map fun x => ev ρ x.2) = vs) (h1 : Om vs = true) {K : Value → World → Prop} (k : ∀ b w', St w0 F0 w' (Aa b vs 3 :: L) G → K (.slice (some ⟨b, 0, none⟩) m m) w') : X Tryz.prog ρ w (.buildSlice 24 m parts) ty K := X.lits hst Tryz.underlying24 Tryz.sizeOf3 Tryz.zeroValue3 hi hn hl vs hp h1 k
abbrev Od := @Ops.done
abbrev On := @Ops.nn
abbrev Ow := @Ops.ww
abbrev Wh := @W.sr
abbrev Wq := @W.seq
abbrev Wr := @W.region
abbrev Dq := @Drw.q
abbrev Dw := @Drw.ww
abbrev We := @W.ret
abbrev Wu := @W.condF
abbrev Wt := @W.condT
abbrev Wk := @W.skip
abbrev Ds := @Ops.ds
abbrev Dd := @Drw.done
abbrev Wb := @W.block
theorem Q2 {α : Type} {a b : α} {l : List α} : [a, b].Sublist (a :: b :: l) := .cons_cons _ (.cons_cons _ (List.nil_sublist _))
theorem Q3 {α : Type} {a b e : α} {l : List α} : [a, b, e].Sublist (a :: b :: e :: l) := .cons_cons _ Q2
theorem Dn {d : Nat} (h : opz c n ρ i = some (some d)) (hS : S w) (k : Drw P n c Q S T r (upd ρ d undef) w) : Drw P n c Q S T (.op i 0 r) ρ w := by
  obtain ⟨op, ty, ps, af, gd, ho, hw, hd⟩ := Ajz h
  exact Drw.no ho hw hd hS k
theorem St.o (hst : St w0 F0 w L G) {d : Nat} (h : opz c n ρ i = some (some d)) (k : Drw P n c Q (Ctx w0 F0 L G) T r (upd ρ d undef) w) : Drw P n c Q (Ctx w0 F0 L G) T (.op i 0 r) ρ w := Dn h hst.ctx k
theorem O {α : Sort _} {a : α} : a = a := rfl
end
end
end Go.Proofs.YtaanjifekgfemaaGreat.K
namespace Go.Proofs.YtaanjifekgfemaaGreat.W
section
open Tryz Go.RowKit YtaanjifekgfemaaGreat.K
theorem Fm : FA 53 0 0 := fun _ _ => by simp [Instr.fieldAt, Instr.sureAddr, go_sem]
theorem Fb : FA 53 1 1 := fun _ _ => by simp [Instr.fieldAt, Instr.sureAddr, go_sem]
theorem E1 : FA 55 0 0 := fun _ _ => by simp [Instr.fieldAt, Instr.sureAddr, go_sem]
theorem I6 : FA 55 1 1 := fun _ _ => by simp [Instr.fieldAt, Instr.sureAddr, go_sem]
theorem Ha : FA 103 0 0 := fun _ _ => by simp [Instr.fieldAt, Instr.sureAddr, go_sem]
theorem Co : FA 103 1 1 := fun _ _ => by simp [Instr.fieldAt, Instr.sureAddr, go_sem]
theorem D0 : FA 103 2 2 := fun _ _ => by simp [Instr.fieldAt, Instr.sureAddr, go_sem]
theorem Ib : FA 103 3 4 := fun _ _ => by simp [Instr.fieldAt, Instr.sureAddr, go_sem]
theorem Hb : FA 103 4 5 := fun _ _ => by simp [Instr.fieldAt, Instr.sureAddr, go_sem]
theorem Gb : FA 103 7 8 := fun _ _ => by simp [Instr.fieldAt, Instr.sureAddr, go_sem]
theorem P2 : FA 103 8 10 := fun _ _ => by simp [Instr.fieldAt, Instr.sureAddr, go_sem]
theorem Hc : FA 103 9 11 := fun _ _ => by simp [Instr.fieldAt, Instr.sureAddr, go_sem]
theorem Fl : FA 103 10 13 := fun _ _ => by simp [Instr.fieldAt, Instr.sureAddr, go_sem]
theorem Ic : FA 114 0 0 := fun _ _ => by simp [Instr.fieldAt, Instr.sureAddr, go_sem]
theorem Ee : FA 114 1 1 := fun _ _ => by simp [Instr.fieldAt, Instr.sureAddr, go_sem]
theorem Bj9 : CF 64 := fun _ _ => by simp [go_sem]
theorem Vd : CF 88 := fun _ _ => by simp [go_sem]
def Bz (x : Int) : Prop := -9223372036854775808 ≤ x ∧ x ≤ 9223372036854775807
@[reducible] def i64 (x : Int) : Value := .int .i64 x
def ivs (l : List Int) : List Value := l.map i64
def lcs (l : List (Int × Int)) : List Value := l.flatMap fun x => [i64 x.1, i64 x.2]
theorem Ea (l : List (Int × Int)) : (lcs l).length = l.length * 2 := by
 induction l with
 | nil => rfl
 | cons x l ih => simp [lcs] at ih ⊢; omega
theorem Azz (x : Int × Int) (l : List (Int × Int)) : lcs (x :: l) = i64 x.1 :: i64 x.2 :: lcs l := rfl
theorem Ad4 (l m : List (Int × Int)) : lcs (l ++ m) = lcs l ++ lcs m := by simp [lcs]
def lp (l : List (Int × Int)) (k : Nat) : Int × Int := l.getD k (0, 0)
theorem Aj2 (l : List (Int × Int)) : ∀ k, k < l.length → (lcs l)[k * 2]? = some (i64 (lp l k).1) ∧ (lcs l)[k * 2 + 1]? = some (i64 (lp l k).2) := by
  induction l with
  | nil => intro k h; simp at h
  | cons x l ih =>
    intro k h; rw [Azz]
    cases k with
    | zero => simp [lp]
    | succ k =>
      have h1 := ih k (by simpa using h); rw [show (k + 1) * 2 = k * 2 + 2 by omega, show k * 2 + 2 + 1 = k * 2 + 1 + 2 by omega]; simpa [lp] using h1
theorem Wa {l : List (Int × Int)} {k : Nat} (h : k < l.length) : lp l k ∈ l := by
 unfold lp; rw [List.getD_eq_getElem?_getD, List.getElem?_eq_getElem h]; simp
def po (l : List (Int × Int)) (k : Nat) : Int := if k = 0 then 0 else (lp l (k - 1)).2
def H1 (l : List (Int × Int)) (k : Nat) : Prop :=
  0 ≤ (lp l k).1 ∧ (lp l k).1 ≤ 1099511627776 ∧ -32 ≤ (lp l k).2 ∧ (lp l k).2 ≤ 32 ∧ (k = 0 ∨ 86400 ≤ (lp l k).1 - (lp l (k - 1)).1) ∧ ((lp l k).2 - po l k = 1 ∨ (lp l k).2 - po l k = -1)
instance (l : List (Int × Int)) (k : Nat) : Decidable (H1 l k) := by unfold H1; infer_instance
def Km (l : List (Int × Int)) : Prop := l.length ≤ 32 ∧ ∀ k, k < l.length → H1 l k
instance (l : List (Int × Int)) : Decidable (Km l) := by unfold Km; infer_instance
theorem Kd {l : List (Int × Int)} (h1 : l.length ≤ 32) (h2 : ∀ k, k < l.length → H1 l k) : decide (Km l) = true := by simpa using ⟨h1, h2⟩
theorem Mo {l : List (Int × Int)} {k : Nat} (h1 : k < l.length) (h2 : ¬ H1 l k) : decide (Km l) = false := by
 simp only [decide_eq_false_iff_not]; exact fun h => h2 (h.2 k h1)
theorem H2 {l : List (Int × Int)} (h1 : 32 < l.length) : decide (Km l) = false := by
 simp only [decide_eq_false_iff_not]; exact fun h => by have := h.1; omega
theorem A2q {l : List (Int × Int)} {k : Nat} (h : ∀ j, j < k → H1 l j) : -32 ≤ po l k ∧ po l k ≤ 32 := by
 unfold po; split
 ·omega
 ·have := h (k - 1) (by omega); unfold H1 at this; omega
theorem Ef {l : List Int} {k : Nat} (h : k < l.length) : (ivs l)[(k : Int).toNat * 1]? = some (i64 (l.getD k 0)) := by
 simp [ivs, h]
theorem Re {l : List Int} {k : Nat} (h : k < l.length) : l.getD k 0 ∈ l := by simp [h]
theorem Lg {l : List (Int × Int)} {k : Nat} (h : k < l.length) : ((lcs l).drop ((k : Int).toNat * 2)).take 2 = [i64 (lp l k).1, i64 (lp l k).2] := by
 rw [Int.toNat_natCast]; obtain ⟨h1, h2⟩ := Aj2 l k h; have hl := Ea l; apply List.ext_getElem?
 intro j; rw [List.getElem?_take]; rcases j with _ | _ | j
 ·simp [h1]
 ·simp [h2]
 ·simp; omega
theorem P9 (l : List (Int × Int)) (k : Nat) : po l (k + 1) = (lp l k).2 := by simp [po]
set_option maxHeartbeats 1000000 in
theorem V3 (lo hi : Int) (v : Value) (l : List Int) (Wd : World) (p : Prop) [Decidable p] (h : Sl Wd v l.length (ivs l)) (hl : l.length ≤ 9223372036854775807) (hp : (∀ x ∈ l, lo ≤ x ∧ x ≤ hi) ↔ p) :
  Calls Tryz.prog 88 #[.int .i64 lo, .int .i64 hi, v] Wd fun e w' => ∃ b, e = .returned (.bool b) ∧ b = decide p ∧ Wd = w' := by
 have hs := h; obtain ⟨A, cap, rfl, hcap, hA⟩ := h; clear hA; refine W.func func88 rfl ntmps88 rfl<|Wh rfl<|Ops.y rfl rfl rfl (at_ _) (Y.assignB rfl)<|Od rfl<|Wq rfl<|Wh rfl<|Ops.y rfl rfl rfl (at_ _) (Y.moveS rfl)<|Ops.y rfl rfl rfl (at_ _) (Y.lenS underlying24 rfl)<|Ops.y rfl rfl rfl (at_ _) (Y.moveI rfl)<|Od rfl<|Wb rfl<|?_; refine W.loop (γ := Nat) [(0, .int _ _), (1, .int _ _), (9, .slice _ _ _), (10, .int _ _)] (fun k => [(11, .int .i64 (k : Int))]) (fun k w => k ≤ l.length ∧ (∀ j, j < k → lo ≤ l.getD j 0 ∧ l.getD j 0 ≤ hi) ∧ w = Wd) (fun k => l.length - k) (0) rfl ⟨rfl, rfl, rfl, rfl, trivial⟩ ?_ ?_ ?_
 ·exact ⟨rfl, trivial⟩
 ·exact ⟨by omega, fun j hj => by omega, rfl⟩
 ·rintro k j w' ⟨hk, hall, rfl⟩; refine Wh rfl<|Ops.yb rfl rfl rfl (at_ _) (Y.lss rfl rfl) (fun b12 hb12 => Od rfl<|Wq rfl<|?_); cases b12
  ·replace hb12 := dF hb12; refine Wu rfl rfl<|W.exit rfl<|Wh rfl<|Ops.y rfl rfl rfl (at_ _) (Y.assignB rfl)<|Od rfl<|We rfl<|⟨_, Ac.one results88 rfl, ?_⟩; refine ⟨_, rfl, ?_, rfl⟩; rw [decide_eq_decide.2 hp.symm]
   first | exact (decide_eq_true (fun x hx => by obtain ⟨j, hj, rfl⟩ := List.mem_iff_getElem.1 hx; have := hall j (by omega); simpa [hj] using this)).symm | exact (decide_eq_false (fun h => by have := h _ hm; omega)).symm
  ·replace hb12 := dT hb12; refine Wt rfl rfl<|Wk rfl<|Wq rfl<|Wb rfl<|Wh rfl<|?_; have hk1 : k < l.length := by omega
   have hm := Re hk1; refine Ops.y rfl rfl rfl (at_ _) (Y.indexAddr underlying24 sizeOf3 rfl rfl (hs.ne (by simp [ivs]; omega)) (by omega)) ?_; refine Ops.y rfl rfl rfl (at_ _) (Y.loadSlW isAgg3 rfl hs (Ef hk1))<|Ops.y rfl rfl rfl (at_ _) (Y.assignI rfl)<|Ds rfl rfl<|Ops.y rfl rfl rfl (at_ _) (Y.moveI rfl)<|Ops.y rfl rfl rfl (at_ _) (Y.moveI rfl)<|Ops.yb rfl rfl rfl (at_ _) (Y.lss rfl rfl) (fun b17 hb17 => Ops.y rfl rfl rfl (at_ _) (Y.moveB rfl)<|?_); cases b17
   ·replace hb17 := dF hb17; refine Ops.y rfl rfl rfl (at_ _) (Y.moveI rfl)<|Ops.y rfl rfl rfl (at_ _) (Y.moveI rfl)<|Ops.yb rfl rfl rfl (at_ _) (Y.gtr rfl rfl) (fun b21 hb21 => Ops.y rfl rfl rfl (at_ _) (Y.pB rfl rfl)<|Od rfl<|?_); cases b21
    ·replace hb21 := dF hb21; refine Wu rfl rfl<|Wk rfl<|Wr rfl<|Ops.y rfl rfl rfl (at_ _) (Y.addI rfl rfl (by omega))<|Ops.y rfl rfl rfl (at_ _) (Y.moveI rfl)<|Od rfl<|?_; exact ⟨k + 1, ⟨rfl, trivial⟩, ⟨rfl, rfl, rfl, rfl, trivial⟩, ⟨by omega, fun j hj => by rcases Nat.lt_succ_iff_lt_or_eq.1 hj with h | h; exact hall j h; subst h; omega, rfl⟩, by omega⟩
    ·replace hb21 := dT hb21; refine Wt rfl rfl<|Wh rfl<|Ops.y rfl rfl rfl (at_ _) (Y.assignB rfl)<|Od rfl<|We rfl<|⟨_, Ac.one results88 rfl, ?_⟩; refine ⟨_, rfl, ?_, rfl⟩; rw [decide_eq_decide.2 hp.symm]
     first | exact (decide_eq_true (fun x hx => by obtain ⟨j, hj, rfl⟩ := List.mem_iff_getElem.1 hx; have := hall j (by omega); simpa [hj] using this)).symm | exact (decide_eq_false (fun h => by have := h _ hm; omega)).symm
   ·replace hb17 := dT hb17; refine On rfl<|On rfl<|On rfl<|Ops.y rfl rfl rfl (at_ _) (Y.pB rfl rfl)<|Od rfl<|Wt rfl rfl<|Wh rfl<|Ops.y rfl rfl rfl (at_ _) (Y.assignB rfl)<|Od rfl<|We rfl<|⟨_, Ac.one results88 rfl, ?_⟩; refine ⟨_, rfl, ?_, rfl⟩; rw [decide_eq_decide.2 hp.symm]
    first | exact (decide_eq_true (fun x hx => by obtain ⟨j, hj, rfl⟩ := List.mem_iff_getElem.1 hx; have := hall j (by omega); simpa [hj] using this)).symm | exact (decide_eq_false (fun h => by have := h _ hm; omega)).symm
set_option maxHeartbeats 4000000 in
theorem Al7 (v : Value) (l : List (Int × Int)) (w0 w : World) (F0 : List Nat) (L G : List Res) (I : St w0 F0 w L G) (hr : Rds L G v l.length (lcs l)) (hl : l.length ≤ 9223372036854775807) (hwf : ∀ x ∈ l, Bz x.1 ∧ Bz x.2) :
  Calls Tryz.prog 64 #[v] w fun e w' => ∃ b, e = .returned (.bool b) ∧ b = decide (Km l) ∧ St w0 F0 w' L G := by
 obtain ⟨A, cap, rfl, hcap, -⟩ := hr.sl I; refine W.func func64 O ntmps64 O<|Wh O<|I.g O O<|Ds O O<|I.a O O<|Od O<|Wq O<|Wh O<|I.s O O<|I.y O (Y.lenS underlying41 O)<|I.u O O<|Od O<|Wb O<|?_; refine W.loop (γ := Nat) [(0, .slice _ _ _), (6, .slice _ _ _), (7, .int _ _)] (fun k => [(3, .int .i64 (po l k)), (8, .int .i64 (k : Int))]) (fun k w => k ≤ l.length ∧ k ≤ 32 ∧ (∀ j, j < k → H1 l j) ∧ St w0 F0 w L G) (fun k => l.length - k) (0) O ⟨O, O, O, trivial⟩ ?_ ?_ ?_
 ·exact ⟨O, O, trivial⟩
 ·exact ⟨by omega, by omega, fun j hj => by omega, I⟩
 ·clear I; rintro k j w1 ⟨hk, hk32, hall, I⟩; have hpo := A2q hall; refine Wh O<|I.v O O O (fun b9 hb9 => Od O<|Wq O<|?_); cases b9
  ·replace hb9 := dF hb9; refine Wu O O<|W.exit O<|Wh O<|I.g O O<|Od O<|We O<|⟨_, Ac.one results64 O, ?_⟩; refine ⟨_, rfl, ?_, (by first | exact I | exact I.drop | exact I.drop.drop | exact I.drop.drop.drop | exact I.drop.drop.drop.drop)⟩
   first | exact (Kd (by omega) (fun j hj => hall j (by omega))).symm | (refine (Mo (k := k) (by omega) (fun h => ?_)).symm; unfold H1 at h; omega) | exact (H2 (by omega)).symm
  ·replace hb9 := dT hb9; refine Wt O O<|Wk O<|Wq O<|Wb O<|Wh O<|I.u O O<|?_; have hk1 : k < l.length := by omega
   have hlp := hwf _ (Wa hk1); unfold Bz at hlp; refine I.y rfl (Y.indexAddr underlying41 sizeOf114 rfl rfl ((hr.sl I).ne (by rw [Ea]; omega)) (by omega)) ?_; refine I.y O (Y.loadSlA isAgg114 sizeOf114 O hr (Lg hk1) O) ?_; have hst0 := I; refine Ow O (X.allocA I zeroValue114 ?_); clear I; intro p5 w5 I; refine I.a O O<|Ow O (X.storeS I 0 sizeOf114 O O O O O (lZ O) O O<|?_); clear I; intro w4_5 I
   try simp only [List.set_cons_zero, List.set_cons_succ, Nat.zero_add, Nat.reduceAdd, splice, List.take, List.drop, List.append_eq, List.nil_append, List.cons_append, List.length_cons, List.length_nil] at I
   refine Od O<|Wq O<|Wq O<|W.drawn O (by kernel_rfl) (Ctx _ _ (_) (_)) [] (.op 0 0 (.op 1 0 (.op 2 0 (.op 3 0 (.op 4 0 (.op 5 1 (.op 6 1 (.op 7 0 (.op 8 0 (.op 9 0 (.op 10 0 (.op 11 0 (.op 12 1 (.op 13 1 (.op 14 0 (.op 15 0 (.op 16 0 (.op 17 0 (.op 18 0 (.op 19 0 (.op 20 0 (.op 21 0 (.op 22 0 (.op 23 0 (.op 24 0 (.op 25 0 (.op 26 0 (.op 27 0 (.op 28 0 (.op 29 0 (.op 30 0 (.op 31 0 (.op 32 0 (.op 33 0 (.op 34 0 (.op 35 0 (.op 36 0 (.op 37 0 (.op 38 0 (.op 39 0 (.op 40 0 (.op 41 0 (.op 42 0 (.op 43 0 (.op 44 0 (.op 45 0 .nil)))))))))))))))))))))))))))))))))))))))))))))) O (by kernel_rfl) I.drew.ctx<|?_; replace I := I.drew; generalize World.drew _ = wd at I ⊢; refine I.zu O O<|Drw.yb O O O I.ctx (Y.geq O O) (fun b14 hb14 => I.zb O O<|?_); cases b14
   ·replace hb14 := dF hb14; refine I.zf Ic O O<|I.zl 0 O O O O<|Dw O (Xl I (by rfl) (by rfl) (by rfl) [.int _ _] (by rfl) (by rfl)<|?_); clear I; intro p18 w18 I; refine ⟨I.ctx1, Dw O (X.call Vd O<|?_)⟩; refine Ab (V3 (0) (1099511627776) _ [(lp l k).1] _ ((0 ≤ (lp l k).1 ∧ (lp l k).1 ≤ 1099511627776)) ((Rds.ofCells 0 O 1 1).sl I) (by simp) (by simp)) O ?_; rintro e w' ⟨b19, rfl, hb19, rfl⟩; refine ⟨_, O, ⟨I.ctx1, ?_⟩⟩; cases b19
    ·replace hb19 := dF hb19; refine Dq O I.ctx1 (Y.not O)<|Dq O I.ctx1 (Y.pB O O)<|Dq O I.ctx1 (Y.moveB O)<|Dn O I.ctx1<|Dn O I.ctx1<|Drw.noX O O O I.ctx1<|Drw.noX O O O I.ctx1<|Dn O I.ctx1<|Dq O I.ctx1 (Y.pB O O)<|Dq O I.ctx1 (Y.moveB O)<|Dn O I.ctx1<|Dn O I.ctx1<|Dn O I.ctx1<|Dn O I.ctx1<|Dn O I.ctx1<|Dn O I.ctx1<|Dn O I.ctx1<|Dn O I.ctx1<|Dn O I.ctx1<|Dn O I.ctx1<|Dn O I.ctx1<|Dn O I.ctx1<|Dn O I.ctx1<|Dn O I.ctx1<|Dq O I.ctx1 (Y.pB O O)<|Dq O I.ctx1 (Y.moveB O)<|Dn O I.ctx1<|Dn O I.ctx1<|Dn O I.ctx1<|Dn O I.ctx1<|Dn O I.ctx1<|Dn O I.ctx1<|Dn O I.ctx1<|Dn O I.ctx1<|Dn O I.ctx1<|Dn O I.ctx1<|Dn O I.ctx1<|Dn O I.ctx1<|Dq O I.ctx1 (Y.pB O O)<|Dd<|Wt O O<|Wh O<|I.g O O<|Od O<|We O<|⟨_, Ac.one results64 O, ?_⟩; refine ⟨_, rfl, ?_, (by first | exact I | exact I.drop | exact I.drop.drop | exact I.drop.drop.drop | exact I.drop.drop.drop.drop)⟩
     first | exact (Kd (by omega) (fun j hj => hall j (by omega))).symm | (refine (Mo (k := k) (by omega) (fun h => ?_)).symm; unfold H1 at h; omega) | exact (H2 (by omega)).symm
    ·replace hb19 := dT hb19; refine Dq O I.ctx1 (Y.not O)<|Dq O I.ctx1 (Y.pB O O)<|Dq O I.ctx1 (Y.moveB O)<|Dq O I.ctx1 (Y.fieldAddr Ee O)<|Dq O I.ctx1 (Y.load 0 isAgg3 O O O)<|Dw O (Xl I (by rfl) (by rfl) (by rfl) [.int _ _] (by rfl) (by rfl)<|?_); clear I; intro p25 w25 I; refine ⟨I.ctx2, Dw O (X.call Vd O<|?_)⟩; refine Ab (V3 (-32) (32) _ [(lp l k).2] _ ((-32 ≤ (lp l k).2 ∧ (lp l k).2 ≤ 32)) ((Rds.ofCells 0 O 1 1).sl I) (by simp) (by simp)) O ?_; rintro e w' ⟨b26, rfl, hb26, rfl⟩; refine ⟨_, O, ⟨I.ctx2, ?_⟩⟩; cases b26
     ·replace hb26 := dF hb26; refine Dq O I.ctx2 (Y.not O)<|Dq O I.ctx2 (Y.pB O O)<|Dq O I.ctx2 (Y.moveB O)<|Dn O I.ctx2<|Dn O I.ctx2<|Dn O I.ctx2<|Dn O I.ctx2<|Dn O I.ctx2<|Dn O I.ctx2<|Dn O I.ctx2<|Dn O I.ctx2<|Dn O I.ctx2<|Dn O I.ctx2<|Dn O I.ctx2<|Dn O I.ctx2<|Dn O I.ctx2<|Dn O I.ctx2<|Dq O I.ctx2 (Y.pB O O)<|Dq O I.ctx2 (Y.moveB O)<|Dn O I.ctx2<|Dn O I.ctx2<|Dn O I.ctx2<|Dn O I.ctx2<|Dn O I.ctx2<|Dn O I.ctx2<|Dn O I.ctx2<|Dn O I.ctx2<|Dn O I.ctx2<|Dn O I.ctx2<|Dn O I.ctx2<|Dn O I.ctx2<|Dq O I.ctx2 (Y.pB O O)<|Dd<|Wt O O<|Wh O<|I.g O O<|Od O<|We O<|⟨_, Ac.one results64 O, ?_⟩; refine ⟨_, rfl, ?_, (by first | exact I | exact I.drop | exact I.drop.drop | exact I.drop.drop.drop | exact I.drop.drop.drop.drop)⟩
      first | exact (Kd (by omega) (fun j hj => hall j (by omega))).symm | (refine (Mo (k := k) (by omega) (fun h => ?_)).symm; unfold H1 at h; omega) | exact (H2 (by omega)).symm
     ·replace hb26 := dT hb26; refine Dq O I.ctx2 (Y.not O)<|Dq O I.ctx2 (Y.pB O O)<|Dq O I.ctx2 (Y.moveB O)<|Dq O I.ctx2 (Y.moveI O)<|Drw.yb O O O I.ctx2 (Y.gtr O O) (fun b31 hb31 => Dq O I.ctx2 (Y.moveB O)<|?_); cases b31
      ·replace hb31 := dF hb31; refine Dn O I.ctx2<|Dn O I.ctx2<|Dn O I.ctx2<|Dn O I.ctx2<|Dn O I.ctx2<|Dn O I.ctx2<|Dn O I.ctx2<|Dn O I.ctx2<|Dn O I.ctx2<|Dn O I.ctx2<|Dq O I.ctx2 (Y.pB O O)<|Dq O I.ctx2 (Y.pB O O)<|Dq O I.ctx2 (Y.moveB O)<|Dq O I.ctx2 (Y.fieldAddr Ee O)<|Dq O I.ctx2 (Y.load 0 isAgg3 O O O)<|Dq O I.ctx2 (Y.moveI O)<|Dq O I.ctx2 (Y.subI O O (by omega))<|Drw.yb O O O I.ctx2 (Y.neq O O) (fun b50 hb50 => Dq O I.ctx2 (Y.moveB O)<|?_); cases b50
       ·replace hb50 := dF hb50; refine Dn O I.ctx2<|Dn O I.ctx2<|Dn O I.ctx2<|Dn O I.ctx2<|Dn O I.ctx2<|Dq O I.ctx2 (Y.pB O O)<|Dq O I.ctx2 (Y.pB O O)<|Dd<|Wu O O<|Wk O<|Wr O<|I.f Ee O O<|I.l 2 O O O O<|I.a O O<|Od O<|Wr O<|I.j O O O (by omega)<|I.u O O<|Od O<|?_; exact ⟨k + 1, ⟨congrArg (Value.int .i64) (P9 l k).symm, O, trivial⟩, ⟨O, O, O, trivial⟩, ⟨by omega, by omega, fun j hj => by rcases Nat.lt_succ_iff_lt_or_eq.1 hj with h | h; exact hall j h; subst h; unfold H1; omega, (by first | exact I | exact I.drop | exact I.drop.drop | exact I.drop.drop.drop | exact I.drop.drop.drop.drop)⟩, by omega⟩
       ·replace hb50 := dT hb50; refine Dq O I.ctx2 (Y.fieldAddr Ee O)<|Dq O I.ctx2 (Y.load 0 isAgg3 O O O)<|Dq O I.ctx2 (Y.moveI O)<|Dq O I.ctx2 (Y.subI O O (by omega))<|Drw.yb O O O I.ctx2 (Y.neq O O) (fun b56 hb56 => Dq O I.ctx2 (Y.pB O O)<|Dq O I.ctx2 (Y.pB O O)<|Dd<|?_); cases b56
        ·replace hb56 := dF hb56; refine Wu O O<|Wk O<|Wr O<|I.f Ee O O<|I.l 2 O O O O<|I.a O O<|Od O<|Wr O<|I.j O O O (by omega)<|I.u O O<|Od O<|?_; exact ⟨k + 1, ⟨congrArg (Value.int .i64) (P9 l k).symm, O, trivial⟩, ⟨O, O, O, trivial⟩, ⟨by omega, by omega, fun j hj => by rcases Nat.lt_succ_iff_lt_or_eq.1 hj with h | h; exact hall j h; subst h; unfold H1; omega, (by first | exact I | exact I.drop | exact I.drop.drop | exact I.drop.drop.drop | exact I.drop.drop.drop.drop)⟩, by omega⟩
        ·replace hb56 := dT hb56; refine Wt O O<|Wh O<|I.g O O<|Od O<|We O<|⟨_, Ac.one results64 O, ?_⟩; refine ⟨_, rfl, ?_, (by first | exact I | exact I.drop | exact I.drop.drop | exact I.drop.drop.drop | exact I.drop.drop.drop.drop)⟩
         first | exact (Kd (by omega) (fun j hj => hall j (by omega))).symm | (refine (Mo (k := k) (by omega) (fun h => ?_)).symm; unfold H1 at h; omega) | exact (H2 (by omega)).symm
      ·replace hb31 := dT hb31; refine Dq O I.ctx2 (Y.fieldAddr Ic O)<|Dq O I.ctx2 (Y.load 0 isAgg3 O O O)<|Dq O I.ctx2 (Y.moveS O)<|Dq O I.ctx2 (Y.moveI O)<|Dq O I.ctx2 (Y.subI O O (by omega))<|?_; have hp0 : (lcs l)[((k : Int) - 1).toNat * 2 + 0]? = some (i64 (lp l (k - 1)).1) := by have h := (Aj2 l (k - 1) (by omega)).1; rw [show ((k : Int) - 1).toNat = k - 1 by omega]; exact h
       have hpm := hwf _ (Wa (show k - 1 < l.length by omega)); unfold Bz at hpm; have hpk := hall (k - 1) (by omega); unfold H1 at hpk; refine Dq rfl I.ctx2 (Y.indexAddr underlying41 sizeOf114 rfl rfl ((hr.sl hst0).ne (by rw [Ea]; omega)) (by omega)) ?_; refine Dq O I.ctx2 (Y.fieldAddrP Ic O)<|Dq O I.ctx2 (Y.loadSlF isAgg3 O (hr.cons _) hp0)<|Dq O I.ctx2 (Y.subI O O (by omega))<|Drw.yb O O O I.ctx2 (Y.lss O O) (fun b42 hb42 => Dq O I.ctx2 (Y.pB O O)<|Dq O I.ctx2 (Y.pB O O)<|Dq O I.ctx2 (Y.moveB O)<|?_); cases b42
       ·replace hb42 := dF hb42; refine Dq O I.ctx2 (Y.fieldAddr Ee O)<|Dq O I.ctx2 (Y.load 0 isAgg3 O O O)<|Dq O I.ctx2 (Y.moveI O)<|Dq O I.ctx2 (Y.subI O O (by omega))<|Drw.yb O O O I.ctx2 (Y.neq O O) (fun b50 hb50 => Dq O I.ctx2 (Y.moveB O)<|?_); cases b50
        ·replace hb50 := dF hb50; refine Dn O I.ctx2<|Dn O I.ctx2<|Dn O I.ctx2<|Dn O I.ctx2<|Dn O I.ctx2<|Dq O I.ctx2 (Y.pB O O)<|Dq O I.ctx2 (Y.pB O O)<|Dd<|Wu O O<|Wk O<|Wr O<|I.f Ee O O<|I.l 2 O O O O<|I.a O O<|Od O<|Wr O<|I.j O O O (by omega)<|I.u O O<|Od O<|?_; exact ⟨k + 1, ⟨congrArg (Value.int .i64) (P9 l k).symm, O, trivial⟩, ⟨O, O, O, trivial⟩, ⟨by omega, by omega, fun j hj => by rcases Nat.lt_succ_iff_lt_or_eq.1 hj with h | h; exact hall j h; subst h; unfold H1; omega, (by first | exact I | exact I.drop | exact I.drop.drop | exact I.drop.drop.drop | exact I.drop.drop.drop.drop)⟩, by omega⟩
        ·replace hb50 := dT hb50; refine Dq O I.ctx2 (Y.fieldAddr Ee O)<|Dq O I.ctx2 (Y.load 0 isAgg3 O O O)<|Dq O I.ctx2 (Y.moveI O)<|Dq O I.ctx2 (Y.subI O O (by omega))<|Drw.yb O O O I.ctx2 (Y.neq O O) (fun b56 hb56 => Dq O I.ctx2 (Y.pB O O)<|Dq O I.ctx2 (Y.pB O O)<|Dd<|?_); cases b56
         ·replace hb56 := dF hb56; refine Wu O O<|Wk O<|Wr O<|I.f Ee O O<|I.l 2 O O O O<|I.a O O<|Od O<|Wr O<|I.j O O O (by omega)<|I.u O O<|Od O<|?_; exact ⟨k + 1, ⟨congrArg (Value.int .i64) (P9 l k).symm, O, trivial⟩, ⟨O, O, O, trivial⟩, ⟨by omega, by omega, fun j hj => by rcases Nat.lt_succ_iff_lt_or_eq.1 hj with h | h; exact hall j h; subst h; unfold H1; omega, (by first | exact I | exact I.drop | exact I.drop.drop | exact I.drop.drop.drop | exact I.drop.drop.drop.drop)⟩, by omega⟩
         ·replace hb56 := dT hb56; refine Wt O O<|Wh O<|I.g O O<|Od O<|We O<|⟨_, Ac.one results64 O, ?_⟩; refine ⟨_, rfl, ?_, (by first | exact I | exact I.drop | exact I.drop.drop | exact I.drop.drop.drop | exact I.drop.drop.drop.drop)⟩
          first | exact (Kd (by omega) (fun j hj => hall j (by omega))).symm | (refine (Mo (k := k) (by omega) (fun h => ?_)).symm; unfold H1 at h; omega) | exact (H2 (by omega)).symm
       ·replace hb42 := dT hb42; refine Dn O I.ctx2<|Dn O I.ctx2<|Dn O I.ctx2<|Dn O I.ctx2<|Dn O I.ctx2<|Dn O I.ctx2<|Dn O I.ctx2<|Dn O I.ctx2<|Dn O I.ctx2<|Dn O I.ctx2<|Dn O I.ctx2<|Dn O I.ctx2<|Dq O I.ctx2 (Y.pB O O)<|Dd<|Wt O O<|Wh O<|I.g O O<|Od O<|We O<|⟨_, Ac.one results64 O, ?_⟩; refine ⟨_, rfl, ?_, (by first | exact I | exact I.drop | exact I.drop.drop | exact I.drop.drop.drop | exact I.drop.drop.drop.drop)⟩
        first | exact (Kd (by omega) (fun j hj => hall j (by omega))).symm | (refine (Mo (k := k) (by omega) (fun h => ?_)).symm; unfold H1 at h; omega) | exact (H2 (by omega)).symm
   ·replace hb14 := dT hb14; refine I.o O<|I.o O<|Drw.noX O O O I.ctx<|Drw.noX O O O I.ctx<|I.o O<|I.zk O O O<|I.zb O O<|I.o O<|I.o O<|Drw.noX O O O I.ctx<|Drw.noX O O O I.ctx<|I.o O<|I.zk O O O<|I.zb O O<|I.o O<|I.o O<|I.o O<|I.o O<|I.o O<|I.o O<|I.o O<|I.o O<|I.o O<|I.o O<|I.o O<|I.o O<|I.o O<|I.o O<|I.zk O O O<|I.zb O O<|I.o O<|I.o O<|I.o O<|I.o O<|I.o O<|I.o O<|I.o O<|I.o O<|I.o O<|I.o O<|I.o O<|I.o O<|I.zk O O O<|Dd<|Wt O O<|Wh O<|I.g O O<|Od O<|We O<|⟨_, Ac.one results64 O, ?_⟩; refine ⟨_, rfl, ?_, (by first | exact I | exact I.drop | exact I.drop.drop | exact I.drop.drop.drop | exact I.drop.drop.drop.drop)⟩
    first | exact (Kd (by omega) (fun j hj => hall j (by omega))).symm | (refine (Mo (k := k) (by omega) (fun h => ?_)).symm; unfold H1 at h; omega) | exact (H2 (by omega)).symm
def Far (x : Int) : Prop := x < -2305843009213693952 ∨ 2305843009213693952 < x
instance (x : Int) : Decidable (Far x) := by unfold Far; infer_instance
def Jf (kind from_ slo shi held hops elo ehi pulse time num : Int) : Prop := (1 ≤ kind ∧ kind ≤ 2) ∧ (0 ≤ from_ ∧ from_ ≤ 47) ∧ (¬ Far slo ∧ ¬ Far shi ∧ ¬ Far elo ∧ ¬ Far ehi ∧ ¬ Far pulse ∧ ¬ Far time) ∧ (0 ≤ held ∧ held ≤ 1073741824) ∧ (0 ≤ hops ∧ hops ≤ 17) ∧ (0 ≤ num ∧ num ≤ 1073741824)
instance (kind from_ slo shi held hops elo ehi pulse time num : Int) : Decidable (Jf kind from_ slo shi held hops elo ehi pulse time num) := by unfold Jf; infer_instance
set_option maxHeartbeats 4000000 in
theorem Xz (kind from_ slo shi held hops : Int) (good ref : Bool) (elo ehi pulse time num : Int) (tab : List (Int × Int)) (A : Option Addr) (cap : Nat) (w0 w : World) (F0 : List Nat) (L G : List Res) (I : St w0 F0 w L G)
  (hr : Rds L G (.slice A tab.length cap) tab.length (lcs tab)) (hlen : tab.length ≤ 9223372036854775807) (hwf : ∀ x ∈ tab, Bz x.1 ∧ Bz x.2) :
  Calls Tryz.prog 85 #[.agg #[.int .i64 kind, .int .i64 from_, .int .i64 slo, .int .i64 shi, .int .i64 held, .int .i64 hops, .bool good, .bool ref, .int .i64 elo, .int .i64 ehi, .int .i64 pulse, .int .i64 time, .int .i64 num, .slice A tab.length cap]] w
   fun e w' => ∃ b, e = .returned (.bool b) ∧ b = decide (Jf kind from_ slo shi held hops elo ehi pulse time num ∧ Km tab) ∧ St w0 F0 w' L G := by
 refine W.func func85 O ntmps85 O<|Wh O<|Ow O (X.boxA I O<|?_); clear I; intro p1 w1 I; refine I.g O O<|Ds O O<|I.f Ha O O<|I.l 0 O O O O<|Ow O (Xl I (by rfl) (by rfl) (by rfl) [.int _ _] (by rfl) (by rfl)<|?_); clear I; intro p7 w7 I; refine Oc O Vd O ?_; refine Ab (V3 (1) (2) _ [kind] _ ((1 ≤ kind ∧ kind ≤ 2)) ((Rds.ofCells 0 O 1 1).sl I) (by simp) (by simp)) O ?_; rintro e w' ⟨b8, rfl, hb8, rfl⟩; refine ⟨_, O, ?_⟩; replace I := I.drop; refine I.b O O ?_; cases b8
 ·replace hb8 := dF hb8; refine On O<|On O<|On O<|On O<|I.k O O O<|I.g O O<|Ds O O<|I.f D0 O O<|I.f Fm O O<|I.l 0 O O O O<|I.f D0 O O<|I.f Fb O O<|I.l 0 O O O O<|I.f Gb O O<|I.f Fm O O<|I.l 0 O O O O<|I.f Gb O O<|I.f Fb O O<|I.l 0 O O O O<|I.f P2 O O<|I.l 0 O O O O<|I.f Hc O O<|I.f E1 O O<|I.l 0 O O O O<|Ow O (Xl I (by rfl) (by rfl) (by rfl) [.int _ _, .int _ _, .int _ _, .int _ _, .int _ _, .int _ _] (by rfl) (by rfl)<|?_); clear I; intro p32 w32 I; refine Oc O Vd O ?_; refine Ab (V3 (-2305843009213693952) (2305843009213693952) _ [slo, shi, elo, ehi, pulse, time] _ ((-2305843009213693952 ≤ slo ∧ slo ≤ 2305843009213693952) ∧ (-2305843009213693952 ≤ shi ∧ shi ≤ 2305843009213693952) ∧ (-2305843009213693952 ≤ elo ∧ elo ≤ 2305843009213693952) ∧ (-2305843009213693952 ≤ ehi ∧ ehi ≤ 2305843009213693952) ∧ (-2305843009213693952 ≤ pulse ∧ pulse ≤ 2305843009213693952) ∧ (-2305843009213693952 ≤ time ∧ time ≤ 2305843009213693952)) ((Rds.ofCells 0 O 6 6).sl I) (by simp) (by simp)) O ?_; rintro e w' ⟨b33, rfl, hb33, rfl⟩; refine ⟨_, O, ?_⟩; replace I := I.drop; refine I.g O O<|Ds O O<|I.b O O<|I.b O O<|On O<|I.k O O O<|I.b O O<|On O<|On O<|On O<|On O<|I.k O O O<|I.b O O<|On O<|On O<|On O<|On O<|I.k O O O<|I.b O O<|On O<|On O<|On O<|On O<|On O<|I.k O O O<|I.b O O<|On O<|On O<|On O<|I.k O O O<|I.g O O<|Od O<|We O<|⟨_, Ac.one results85 O, ?_⟩; refine ⟨_, O, ?_, I.drop⟩
  first | exact (decide_eq_true ⟨by unfold Jf Far; omega, by assumption⟩).symm | exact (decide_eq_false (fun h => by unfold Jf Far at h; omega)).symm | exact (decide_eq_false (fun h => by have := h.2; contradiction)).symm
 ·replace hb8 := dT hb8; refine I.f Co O O<|I.l 0 O O O O<|Ow O (Xl I (by rfl) (by rfl) (by rfl) [.int _ _] (by rfl) (by rfl)<|?_); clear I; intro p12 w12 I; refine Oc O Vd O ?_; refine Ab (V3 (0) (47) _ [from_] _ ((0 ≤ from_ ∧ from_ ≤ 47)) ((Rds.ofCells 0 O 1 1).sl I) (by simp) (by simp)) O ?_; rintro e w' ⟨b13, rfl, hb13, rfl⟩; refine ⟨_, O, ?_⟩; replace I := I.drop; refine I.k O O O<|I.g O O<|Ds O O<|I.f D0 O O<|I.f Fm O O<|I.l 0 O O O O<|I.f D0 O O<|I.f Fb O O<|I.l 0 O O O O<|I.f Gb O O<|I.f Fm O O<|I.l 0 O O O O<|I.f Gb O O<|I.f Fb O O<|I.l 0 O O O O<|I.f P2 O O<|I.l 0 O O O O<|I.f Hc O O<|I.f E1 O O<|I.l 0 O O O O<|Ow O (Xl I (by rfl) (by rfl) (by rfl) [.int _ _, .int _ _, .int _ _, .int _ _, .int _ _, .int _ _] (by rfl) (by rfl)<|?_); clear I; intro p32 w32 I; refine Oc O Vd O ?_; refine Ab (V3 (-2305843009213693952) (2305843009213693952) _ [slo, shi, elo, ehi, pulse, time] _ ((-2305843009213693952 ≤ slo ∧ slo ≤ 2305843009213693952) ∧ (-2305843009213693952 ≤ shi ∧ shi ≤ 2305843009213693952) ∧ (-2305843009213693952 ≤ elo ∧ elo ≤ 2305843009213693952) ∧ (-2305843009213693952 ≤ ehi ∧ ehi ≤ 2305843009213693952) ∧ (-2305843009213693952 ≤ pulse ∧ pulse ≤ 2305843009213693952) ∧ (-2305843009213693952 ≤ time ∧ time ≤ 2305843009213693952)) ((Rds.ofCells 0 O 6 6).sl I) (by simp) (by simp)) O ?_; rintro e w' ⟨b33, rfl, hb33, rfl⟩; refine ⟨_, O, ?_⟩; replace I := I.drop; refine I.g O O<|Ds O O<|I.b O O<|I.b O O<|?_; cases b13
  ·replace hb13 := dF hb13; refine On O<|I.k O O O<|I.b O O<|On O<|On O<|On O<|On O<|I.k O O O<|I.b O O<|On O<|On O<|On O<|On O<|I.k O O O<|I.b O O<|On O<|On O<|On O<|On O<|On O<|I.k O O O<|I.b O O<|On O<|On O<|On O<|I.k O O O<|I.g O O<|Od O<|We O<|⟨_, Ac.one results85 O, ?_⟩; refine ⟨_, O, ?_, I.drop⟩
   first | exact (decide_eq_true ⟨by unfold Jf Far; omega, by assumption⟩).symm | exact (decide_eq_false (fun h => by unfold Jf Far at h; omega)).symm | exact (decide_eq_false (fun h => by have := h.2; contradiction)).symm
  ·replace hb13 := dT hb13; refine I.b O O<|I.k O O O<|I.b O O<|?_; cases b33
   ·replace hb33 := dF hb33; refine On O<|On O<|On O<|On O<|I.k O O O<|I.b O O<|On O<|On O<|On O<|On O<|I.k O O O<|I.b O O<|On O<|On O<|On O<|On O<|On O<|I.k O O O<|I.b O O<|On O<|On O<|On O<|I.k O O O<|I.g O O<|Od O<|We O<|⟨_, Ac.one results85 O, ?_⟩; refine ⟨_, O, ?_, I.drop⟩
    first | exact (decide_eq_true ⟨by unfold Jf Far; omega, by assumption⟩).symm | exact (decide_eq_false (fun h => by unfold Jf Far at h; omega)).symm | exact (decide_eq_false (fun h => by have := h.2; contradiction)).symm
   ·replace hb33 := dT hb33; refine I.f Ib O O<|I.l 0 O O O O<|Ow O (Xl I (by rfl) (by rfl) (by rfl) [.int _ _] (by rfl) (by rfl)<|?_); clear I; intro p41 w41 I; refine Oc O Vd O ?_; refine Ab (V3 (0) (1073741824) _ [held] _ ((0 ≤ held ∧ held ≤ 1073741824)) ((Rds.ofCells 0 O 1 1).sl I) (by simp) (by simp)) O ?_; rintro e w' ⟨b42, rfl, hb42, rfl⟩; refine ⟨_, O, ?_⟩; replace I := I.drop; refine I.k O O O<|I.b O O<|?_; cases b42
    ·replace hb42 := dF hb42; refine On O<|On O<|On O<|On O<|I.k O O O<|I.b O O<|On O<|On O<|On O<|On O<|On O<|I.k O O O<|I.b O O<|On O<|On O<|On O<|I.k O O O<|I.g O O<|Od O<|We O<|⟨_, Ac.one results85 O, ?_⟩; refine ⟨_, O, ?_, I.drop⟩
     first | exact (decide_eq_true ⟨by unfold Jf Far; omega, by assumption⟩).symm | exact (decide_eq_false (fun h => by unfold Jf Far at h; omega)).symm | exact (decide_eq_false (fun h => by have := h.2; contradiction)).symm
    ·replace hb42 := dT hb42; refine I.f Hb O O<|I.l 0 O O O O<|Ow O (Xl I (by rfl) (by rfl) (by rfl) [.int _ _] (by rfl) (by rfl)<|?_); clear I; intro p47 w47 I; refine Oc O Vd O ?_; refine Ab (V3 (0) (17) _ [hops] _ ((0 ≤ hops ∧ hops ≤ 17)) ((Rds.ofCells 0 O 1 1).sl I) (by simp) (by simp)) O ?_; rintro e w' ⟨b48, rfl, hb48, rfl⟩; refine ⟨_, O, ?_⟩; replace I := I.drop; refine I.k O O O<|I.b O O<|?_; cases b48
     ·replace hb48 := dF hb48; refine On O<|On O<|On O<|On O<|On O<|I.k O O O<|I.b O O<|On O<|On O<|On O<|I.k O O O<|I.g O O<|Od O<|We O<|⟨_, Ac.one results85 O, ?_⟩; refine ⟨_, O, ?_, I.drop⟩
      first | exact (decide_eq_true ⟨by unfold Jf Far; omega, by assumption⟩).symm | exact (decide_eq_false (fun h => by unfold Jf Far at h; omega)).symm | exact (decide_eq_false (fun h => by have := h.2; contradiction)).symm
     ·replace hb48 := dT hb48; refine I.f Hc O O<|I.f I6 O O<|I.l 0 O O O O<|Ow O (Xl I (by rfl) (by rfl) (by rfl) [.int _ _] (by rfl) (by rfl)<|?_); clear I; intro p54 w54 I; refine Oc O Vd O ?_; refine Ab (V3 (0) (1073741824) _ [num] _ ((0 ≤ num ∧ num ≤ 1073741824)) ((Rds.ofCells 0 O 1 1).sl I) (by simp) (by simp)) O ?_; rintro e w' ⟨b55, rfl, hb55, rfl⟩; refine ⟨_, O, ?_⟩; replace I := I.drop; refine I.k O O O<|I.b O O<|?_; cases b55
      ·replace hb55 := dF hb55; refine On O<|On O<|On O<|I.k O O O<|I.g O O<|Od O<|We O<|⟨_, Ac.one results85 O, ?_⟩; refine ⟨_, O, ?_, I.drop⟩
       first | exact (decide_eq_true ⟨by unfold Jf Far; omega, by assumption⟩).symm | exact (decide_eq_false (fun h => by unfold Jf Far at h; omega)).symm | exact (decide_eq_false (fun h => by have := h.2; contradiction)).symm
      ·replace hb55 := dT hb55; refine I.f Fl O O<|I.y O (Y.load 0 isAgg41 O O O)<|Oc O Bj9 O ?_; refine Ab (Al7 _ tab _ _ _ _ _ I (hr.cons _) hlen hwf) O ?_; rintro e w1 ⟨b60, rfl, hb60, I⟩; refine ⟨_, O, ?_⟩; refine I.k O O O<|I.g O O<|Od O<|We O<|?_; cases b60
       ·replace hb60 := dF hb60; refine ⟨_, Ac.one results85 O, ?_⟩; refine ⟨_, O, ?_, I.drop⟩
        first | exact (decide_eq_true ⟨by unfold Jf Far; omega, by assumption⟩).symm | exact (decide_eq_false (fun h => by unfold Jf Far at h; omega)).symm | exact (decide_eq_false (fun h => by have := h.2; contradiction)).symm
       ·replace hb60 := dT hb60; refine ⟨_, Ac.one results85 O, ?_⟩; refine ⟨_, O, ?_, I.drop⟩
        first | exact (decide_eq_true ⟨by unfold Jf Far; omega, by assumption⟩).symm | exact (decide_eq_false (fun h => by unfold Jf Far at h; omega)).symm | exact (decide_eq_false (fun h => by have := h.2; contradiction)).symm
end
section
open Tryz Go.RowKit YtaanjifekgfemaaGreat.K Go.ChangeShapes Go.WideShapes Go.Deep
section
variable {H : Type} {enc : TypeId × Value → H} {w : World} {base : Nat} {held : Bool}
theorem k3 : Tryz.prog.cellsOf 3 = 1 := by kernel_rfl
theorem k4 : Tryz.prog.cellsOf 4 = 1 := by kernel_rfl
end
end
end Go.Proofs.YtaanjifekgfemaaGreat.W
namespace Go.Proofs.YtaanjifekgfemaaGreat.K
section
open Tryz Go.RowKit
section
variable {P : Program} {n : Fr} {c : Code} {Q : Ez} {ρ : Env} {w0 w : World} {F0 : List Nat} {L G : List Res} {S : World → Prop} {ty t t' : TypeId} {x y : Operand}
theorem St.nilRow (h : St w0 F0 w L G) (e : TypeId) (size : Nat) : St w0 F0 w (Af (.slice none 0 0) e size 0 [] :: L) G :=
 St.turn (L1 := []) (L2 := [Af (.slice none 0 0) e size 0 []]) h (by simp [Ch]) (by simp [Ch]) (by intro r hr; simp at hr; subst hr; exact Za w e size)
theorem X.litRow (I : St w0 F0 w L G) {e : TypeId} (ht : P.underlying t = some (.slice e)) {size : Nat} (hs : ∀ w, (sizeOf e).run P w = .ok size w) {K : Value → World → Prop}
  (k : ∀ b w', St w0 F0 w' (Af (.slice (some ⟨b, 0, none⟩) 0 0) e size 0 [] :: L) G → K (.slice (some ⟨b, 0, none⟩) 0 0) w') : X P ρ w (.buildSlice t 0 #[]) ty K := by
 intro a ops Q o ho _ ha hw; refine Y6 I hw ho ht hs ?_; rintro v w' h ⟨b, rfl⟩; exact ⟨_, O, k b w' h⟩
theorem X.lit1 (I : St w0 F0 w L G) {e : TypeId} {x : Operand} {m : Nat} (ht : P.underlying t = some (.slice e)) (hs : ∀ w, (sizeOf e).run P w = .ok m w) {z : Value} (hz : ∀ w, (zeroValue e).run P w = .ok z w) (hl : Nat.ble m 16777216 = true)
  {vs : List Value} (hx : ev ρ x = .agg vs.toArray) (hm : vs.length = m) {K : Value → World → Prop} (k : ∀ b w', St w0 F0 w' (Aa b vs e :: L) G → K (.slice (some ⟨b, 0, none⟩) 1 1) w') : X P ρ w (.buildSlice t 1 #[(0, x)]) ty K := by
 intro a ops Q o ho _ ha hw; refine Wo I hw ho ht (v := .agg vs.toArray) (by rw [ha]; exact hx) hs (by simp [Value.cells, hm]) hz (Nat.le_of_ble_eq_true hl) ?_; intro b w' h; exact ⟨_, O, k b w' (by simpa [Value.cells] using h)⟩
theorem X.append (I : St w0 F0 w L G) (j : Nat) {e : TypeId} (ht : P.underlying t = some (.slice e)) {z : Value} {size bytes : Nat} (hinfo : (P.info? e).map (fun i => (i.zero, i.size, i.bytes)) = some (some z, size, bytes)) (hzs : z.cells.size = size) (hsz : Nat.blt 0 size = true)
  {v : Value} {m : Nat} {xs : List Value} (hx : ev ρ x = v) (hL : L[j]? = some (Af v e size m xs)) {u : Value} {m' : Nat} {news : List Value} (hy : ev ρ y = u) (hr : Rds L G u m' news) (hl : news.length = m' * size) (h1 : ∀ u ∈ news, u.oneCell' = true)
  (h63 : m + m' ≤ maxLen) (hbytes : (m + m') * bytes ≤ 140737488355328) {K : Value → World → Prop} (k : ∀ v' w', St w0 F0 w' (L.set j (Af v' e size (m + m') (xs ++ news))) G → K v' w') :
  X P ρ w (.call { callee := .builtin .append, args := #[x, y], argTypes := #[t, t] }) ty K := by
 intro a ops Q o ho _ ha hw; refine Y5 I j hw ho ht hinfo hzs (by simpa [Nat.blt_eq] using hsz) (by rw [ha]; exact hx) hL (by rw [ha]; exact hy) hr hl h1 h63 hbytes ?_; intro v' w' h _; exact ⟨_, O, k v' w' h⟩
theorem X.copy (I : St w0 F0 w L G) (j : Nat) {e : TypeId} (ht : P.underlying t = some (.slice e)) {size : Nat} (hs1 : ∀ w, (sizeOf e).run P w = .ok size w) {b off m cp : Nat} (hx : ev ρ x = .slice (some ⟨b, off, none⟩) m cp) {cs : List Value} {e' : TypeId} (hL : L[j]? = some (Aa b cs e'))
  {u : Value} {m' : Nat} {xs : List Value} (hy : ev ρ y = u) (hr : Rds L G u m' xs) (hl : xs.length = m' * size) (h1 : ∀ u ∈ xs, u.oneCell' = true) (hmn : m' ≤ m) (hfit : off + xs.length ≤ cs.length) {K : Value → World → Prop}
  (k : ∀ w', St w0 F0 w' (L.set j (Aa b (splice cs off xs) e')) G → K (.int .i64 (m' : Int)) w') : X P ρ w (.call { callee := .builtin .copy, args := #[x, y], argTypes := #[t, t] }) ty K := by
 intro a ops Q o ho _ ha hw; refine Ae5 I j hw ho ht hs1 (by rw [ha]; exact hx) hL (by rw [ha]; exact hy) hr hl h1 hmn hfit ?_; intro w' h; exact ⟨_, O, k w' h⟩
def Sf (A : Option Addr) (cp l size : Nat) : Option Addr := if cp = l then A else A.map (·.add (l * size))
theorem Y.sliceHi {e : TypeId} (ht : P.underlying t = some (.slice e)) {size : Nat} (hs : ∀ w, (sizeOf e).run P w = .ok size w) {A : Option Addr} {l cp : Nat} (hx : ev ρ x = .slice A l cp) {ki : IntKind} {h : Int} {m : Nat} (hy : ev ρ y = .int ki h) (hm : h = (m : Int)) (hb : m ≤ cp) :
  Y P S ρ (.slice t x none (some y) none) ty (.slice A m cp) := fun w _ o ho _ => by
 subst hm
 have e1 : (if cp = 0 then A else Option.map (fun x => x.add 0) A) = A := by
  split
  ·rfl
  ·cases A <;> simp [Addr.add]
 have hb' : (m : Int) ≤ (cp : Int) := by omega
 have h0 : (0 : Int) ≤ (m : Int) := by omega
 simp [execOp, ho, hx, hy, Instr.sliceAt, Instr.slice, Instr.sliceBounds, Instr.sliceBound, asIntOf, run_underlying ht, hs, hb, h0, e1]
theorem Y.sliceLo {e : TypeId} (ht : P.underlying t = some (.slice e)) {size : Nat} (hs : ∀ w, (sizeOf e).run P w = .ok size w) {A : Option Addr} {l cp : Nat} (hx : ev ρ x = .slice A l cp) {ki : IntKind} {h : Int} {m : Nat} (hy : ev ρ y = .int ki h) (hm : h = (m : Int)) (hb : m ≤ l) :
  Y P S ρ (.slice t x (some y) none none) ty (.slice (Sf A cp m size) (l - m) (cp - m)) := fun w _ o ho _ => by
 subst hm; have hb' : (m : Int) ≤ (l : Int) := by omega
 have h0 : (0 : Int) ≤ (m : Int) := by omega
 simp [execOp, ho, hx, hy, Instr.sliceAt, Instr.slice, Instr.sliceBounds, Instr.sliceBound, asIntOf, run_underlying ht, hs, hb, Sf]
theorem Sl.takeN {A : Option Addr} {m cp k size : Nat} {xs : List Value} (h : Sl w (.slice A m cp) m xs) (hl : xs.length = m * size) (hk : k ≤ m) : Sl w (.slice A k cp) k (xs.take (k * size)) := by
 obtain ⟨A', cap, he, hc, hA⟩ := h; injection he with h1 _ h2; subst h1; subst h2; refine ⟨_, _, rfl, by omega, fun hx => ?_⟩; obtain ⟨ad, rfl, hcell⟩ := hA (by intro e; subst e; simp at hx); refine ⟨ad, rfl, fun j hj => ?_⟩; rw [List.length_take] at hj; rw [hcell j (by omega), List.getElem?_take, if_pos (by omega)]
theorem Sl.dropN {A : Option Addr} {m cp k size : Nat} {xs : List Value} (h : Sl w (.slice A m cp) m xs) (hl : xs.length = m * size) (hk : k ≤ m) : Sl w (.slice (Sf A cp k size) (m - k) (cp - k)) (m - k) (xs.drop (k * size)) := by
 obtain ⟨A', cap, he, hc, hA⟩ := h; injection he with h1 _ h2; subst h1; subst h2; refine ⟨_, _, rfl, by omega, fun hx => ?_⟩
 have hlen : k * size < xs.length := by
  rcases Nat.lt_or_ge (k * size) xs.length with h | h
  ·exact h
  ·exact absurd (List.drop_of_length_le h) hx
 have hkm : k < m := by
  rcases Nat.lt_or_ge k m with h | h
  ·exact h
  ·have : m * size ≤ k * size := Nat.mul_le_mul_right _ h; omega
 obtain ⟨ad, rfl, hcell⟩ := hA (by intro e; subst e; simp at hx); unfold Sf; rw [if_neg (by omega)]; refine ⟨_, rfl, fun j hj => ?_⟩; rw [List.length_drop] at hj; rw [add_add, hcell _ (by omega), List.getElem?_drop]
theorem Rds.takeN {A : Option Addr} {m cp k size : Nat} {xs : List Value} (h : Rds L G (.slice A m cp) m xs) (hl : xs.length = m * size) (hk : k ≤ m) : Rds L G (.slice A k cp) k (xs.take (k * size)) := by
 obtain ⟨r, hr, hi⟩ := h; exact ⟨r, hr, fun w hw => (hi w hw).takeN hl hk⟩
theorem Rds.dropN {A : Option Addr} {m cp k size : Nat} {xs : List Value} (h : Rds L G (.slice A m cp) m xs) (hl : xs.length = m * size) (hk : k ≤ m) : Rds L G (.slice (Sf A cp k size) (m - k) (cp - k)) (m - k) (xs.drop (k * size)) := by
 obtain ⟨r, hr, hi⟩ := h; exact ⟨r, hr, fun w hw => (hi w hw).dropN hl hk⟩
end
end
end Go.Proofs.YtaanjifekgfemaaGreat.K
namespace Go.Proofs.YtaanjifekgfemaaGreat.W
section
open Tryz Go.RowKit YtaanjifekgfemaaGreat.K
def by8 (n : Int) (j : Nat) : UInt8 := UInt8.ofNat ((n % 18446744073709551616).toNat / 2 ^ (8 * (7 - j)))
def be8 (n : Int) : List UInt8 := (List.range 8).map (by8 n)
def E6 (l : List Int) : List UInt8 := l.flatMap be8
@[simp] theorem Qr (n : Int) : (be8 n).length = 8 := by simp [be8]
theorem Gn (l : List Int) : (E6 l).length = 8 * l.length := by
 induction l with
 | nil => rfl
 | cons x l ih => simp [E6] at ih ⊢; omega
theorem Pe (l m : List Int) : E6 (l ++ m) = E6 l ++ E6 m := by simp [E6]
theorem Av4 (n : Int) (j : Nat) (h : j < 8) : (be8 n).take (j + 1) = (be8 n).take j ++ [by8 n j] := by
 rw [List.take_succ_eq_append_getElem (by simpa using h)]; simp [be8]
theorem Af7 {l : List Int} {k : Nat} (h : k < l.length) : l.take (k + 1) = l.take k ++ [l.getD k 0] := by
 rw [List.take_succ_eq_append_getElem h]; simp [h]
theorem Ar2 {l : List Int} {k : Nat} (h : k < l.length) : E6 (l.take (k + 1)) = E6 (l.take k) ++ be8 (l.getD k 0) := by
 rw [Af7 h, Pe]; simp [E6]
theorem wrap_u64 (n : Int) : IntKind.u64.wrap n = n % 18446744073709551616 := by
 unfold IntKind.wrap; simp [IntKind.signed, IntKind.bits]
theorem Am0 (n : Int) : IntKind.u8.wrap n = n % 256 := by
 unfold IntKind.wrap; simp [IntKind.signed, IntKind.bits]
theorem A98 (n : Int) (j : Nat) (h : j < 8) : Value.int .u8 (IntKind.u8.wrap ((IntKind.u64.wrap n).fdiv (2 ^ (min ((8 : Int) * (7 - (j : Int))).toNat IntKind.u64.bits)))) = bv (by8 n j) := by
 have e1 : ((8 : Int) * (7 - (j : Int))).toNat = 8 * (7 - j) := by omega
 have e2 : min (8 * (7 - j)) IntKind.u64.bits = 8 * (7 - j) := by show min _ 64 = _; omega
 rw [e1, e2, wrap_u64, Am0]; unfold bv by8; rw [UInt8.toNat_ofNat']; have h0 : 0 ≤ n % 18446744073709551616 := Int.emod_nonneg _ (by decide); generalize n % 18446744073709551616 = m at *; obtain ⟨a, rfl⟩ := Int.eq_ofNat_of_zero_le h0; generalize 8 * (7 - j) = s; have e3 : (2 : Int) ^ s = ((2 ^ s : Nat) : Int) := by norm_cast
 rw [e3, ← Int.ofNat_fdiv, Int.toNat_natCast]; generalize a / 2 ^ s = q; exact congrArg (Value.int .u8) (by rw [show (2 : Nat) ^ 8 = 256 from rfl]; omega)
theorem Bl1 : (Tryz.prog.info? 5).map (fun i => (i.zero, i.size, i.bytes)) = some (some (.int .u8 0), 1, 1) := by kernel_rfl
theorem A96 (l : List UInt8) : ∀ u ∈ bvs l, u.oneCell' = true := by
 intro u hu; simp only [bvs, List.mem_map] at hu; obtain ⟨x, _, rfl⟩ := hu; rfl
theorem Vn : FA 183 0 0 := fun _ _ => by simp [Instr.fieldAt, Instr.sureAddr, go_sem]
set_option maxHeartbeats 2000000 in
theorem Yv (b : Nat) (acc : List UInt8) (v : Value) (A : Option Addr) (cap : Nat) (l : List Int) (w0 w : World) (F0 : List Nat) (L G : List Res)
  (I : St w0 F0 w (Aa b [v] 183 :: Af v 5 1 acc.length (bvs acc) :: L) G) (hr : Rds L G (.slice A l.length cap) l.length (ivs l)) (hwf : ∀ x ∈ l, Bz x) (hsz : acc.length + 8 * l.length ≤ 1000000) :
  Calls Tryz.prog 86 #[.pointer (some ⟨b, 0, none⟩), .slice A l.length cap] w fun e w' => e = .returned (.tuple #[]) ∧ ∃ v', St w0 F0 w' (Aa b [v'] 183 :: Af v' 5 1 (acc ++ E6 l).length (bvs (acc ++ E6 l)) :: L) G := by
 refine W.func func86 O ntmps86 O<|Wh O<|I.s O O<|I.y O (Y.lenS underlying24 O)<|I.u O O<|Od O<|Wb O<|?_; refine W.loop (γ := Nat) [(0, .pointer _), (7, .slice _ _ _), (8, .int _ _)] (fun k => [(9, .int .i64 (k : Int))]) (fun k w => k ≤ l.length ∧ ∃ v, St w0 F0 w (Aa b [v] 183 :: Af v 5 1 (acc.length + 8 * k) (bvs (acc ++ E6 (l.take k))) :: L) G) (fun k => l.length - k) (0) O ⟨O, O, O, trivial⟩ ?_ ?_ ?_
 ·exact ⟨O, trivial⟩
 ·exact ⟨by omega, v, by simpa [E6] using I⟩
 ·clear I; rintro k j w1 ⟨hk, vk, I⟩; refine Wh O<|I.v O O O (fun b10 hb10 => Od O<|Wq O<|?_); cases b10
  ·replace hb10 := dF hb10; refine Wu O O<|W.exit O<|⟨_, Ac.none results86, ⟨O, vk, ?_⟩⟩; rw [show k = l.length by omega, List.take_length] at I; rw [List.length_append, Gn]; exact I
  ·replace hb10 := dT hb10; refine Wt O O<|Wk O<|Wq O<|Wb O<|Wh O<|?_; have hk1 : k < l.length := by omega
   have hmx := hwf _ (Re hk1); unfold Bz at hmx; refine I.y rfl (Y.indexAddr underlying24 sizeOf3 rfl rfl (((hr.cons _).cons _).sl I |>.ne (by simp [ivs]; omega)) (by omega)) ?_; refine I.y O (Y.loadSl isAgg3 O ((hr.cons _).cons _) (Ef hk1))<|I.a O O<|Ds O O<|I.a O O<|Od O<|Wb O<|?_; refine W.loop (γ := Nat) [(0, .pointer _), (5, .int _ _), (7, .slice _ _ _), (8, .int _ _), (9, .int _ _)] (fun j => [(6, .int .i64 (7 - (j : Int)))]) (fun j w => j ≤ 8 ∧ ∃ v, St w0 F0 w (Aa b [v] 183 :: Af v 5 1 (acc.length + 8 * k + j) (bvs (acc ++ E6 (l.take k) ++ (be8 (l.getD k 0)).take j)) :: L) G) (fun j => 8 - j) (0) O ⟨O, O, O, O, O, trivial⟩ ?_ ?_ ?_
   ·exact ⟨O, trivial⟩
   ·exact ⟨by omega, vk, by simpa using I⟩
   ·clear I; rintro j i w3 ⟨hj8, vj, I⟩; obtain ⟨Av, cv, rfl, -⟩ := C5 (I.res _ (List.Mem.tail _ (List.Mem.head _))); refine Wq O<|Wh O<|I.u O O<|I.W O O O (fun b14 hb14 => Od O<|?_); cases b14
    ·replace hb14 := dF hb14; refine Wu O O<|W.exit O<|Wr O<|I.j O O O (by omega)<|I.u O O<|Od O<|?_; have h8 : (be8 (l.getD k 0)).take j = be8 (l.getD k 0) := List.take_of_length_le (by rw [Qr]; omega); rw [h8] at I; exact ⟨k + 1, ⟨O, trivial⟩, ⟨O, O, O, trivial⟩, ⟨by omega, _, by rw [Ar2 hk1, ← List.append_assoc, show acc.length + 8 * (k + 1) = acc.length + 8 * k + j by omega]; exact I⟩, by omega⟩
    ·replace hb14 := dT hb14; refine Wt O O<|Wk O<|Wq O<|Wb O<|W.drawn O (by kernel_rfl) (Ctx _ _ (_) (_)) [12, 13, 14, 15] (.op 0 2 (.op 1 0 (.op 2 0 (.op 3 0 (.op 4 0 (.op 5 0 (.op 6 0 (.op 7 0 (.op 8 0 (.op 9 0 (.op 10 0 (.op 11 1 (.op 12 1 (.op 13 1 (.op 14 1 (.op 15 1 .nil)))))))))))))))) O (by kernel_rfl) I.drew.ctx<|?_; replace I := I.drew; generalize World.drew _ = wd at I ⊢; have hj1 : j < 8 := by omega
     refine Drw.ya O O O I.ctx (Y.moveP O)<|I.zp O O<|I.zt O O<|I.zf Vn O O<|I.z O (Y.load 0 isAgg172 O O O)<|I.zu O O<|I.z O (Y.conv underlying192 underlying3 O)<|I.zu O O<|I.z O (Y.mulI O O (by omega))<|I.z O (Y.shr O O (by omega))<|I.z O (Y.conv underlying5 underlying192 O)<|Dw O (X.lits I underlying172 sizeOf5 zeroValue5 (by rfl) (by rfl) (by rfl) [.int _ _] (by rfl) (by rfl)<|?_); clear I; intro p28 w28 I; refine ⟨I.ctx1, ?_⟩; replace I := I; rw [A98 _ j hj1] at I; refine Drw.z rfl rfl rfl rfl (X.append I 2 underlying172 Bl1 rfl rfl rfl rfl rfl (Rds.ofCells 0 rfl 1 1) rfl (A96 [by8 (l.getD k 0) j]) (by unfold maxLen; omega) (by omega) ?_); clear I; intro v29 w29 I; obtain ⟨A29, c29, rfl, -⟩ := C5 (I.res _ (List.Mem.tail _ (List.Mem.tail _ (List.Mem.head _)))); refine Drw.zy O O O O I.ctx (Y.nilCheck O)<|Drw.zy O O O O I.ctx (Y.fieldAddr Vn O)<|Drw.z O O O O (X.storeV I 1 (.slice _ _ _) sizeOf172 O O O O (lZ O) O O<|?_); clear I; intro w6_15 I
     try simp only [List.set_cons_zero, List.set_cons_succ, Nat.zero_add, Nat.reduceAdd, splice, List.take, List.drop, List.append_eq, List.nil_append, List.cons_append, List.length_cons, List.length_nil] at I
     refine Dd<|Wr O<|I.u O O<|I.y O (Y.subI O O (by omega))<|I.a O O<|Od O<|?_; exact ⟨j + 1, ⟨congrArg (Value.int .i64) (by omega), trivial⟩, ⟨O, O, O, O, O, trivial⟩, ⟨by omega, _, by rw [Av4 _ j hj1, ← List.append_assoc, Qv]; exact I.drop⟩, by omega⟩
end
end Go.Proofs.YtaanjifekgfemaaGreat.W
namespace Go.Proofs.YtaanjifekgfemaaGreat.K
section
open Tryz Go.RowKit
section
variable {P : Program} {n : Fr} {c : Code} {Q : Ez} {ρ : Env} {w0 w : World} {F0 : List Nat} {L G : List Res} {S : World → Prop} {ty t t' : TypeId} {x y : Operand}
theorem J7 {xs : Array Operand} {vs : List Value} (hv : xs.toList.map (ev ρ) = vs) : xs.map (ev ρ) = vs.toArray := by
 subst hv; apply Array.ext'; simp
theorem Y.makeFunc {fn : Fn} {first cap : Array Operand} {fs cs : List Value} (hf : first.toList.map (ev ρ) = fs) (hc : cap.toList.map (ev ρ) = cs) : Y P S ρ (.makeFunc fn first cap) ty (.func fn fs.toArray cs.toArray) := fun w _ o ho _ => by
 simp only [execOp, ho, J7 hf, J7 hc]; simp [Instr.makeFunc]
theorem X.callV {f : FuncId} {k : Nat} {xs : Array Operand} {tys : Array TypeId} (hfc : ∀ args w, (callFunc f args).run P w = .ok (.enter f args) w) {fs cs : List Value} (hx : ρ k = .func (.func f) fs.toArray cs.toArray) {vs : List Value} (hv : (xs.toList.map (ev ρ)) = vs) {K : Value → World → Prop} (hc : Calls P f (fs ++ vs ++ cs).toArray w (fun e w' => ∃ v, e = .returned v ∧ K v w')) :
  X P ρ w (.call { callee := .value (.tmp k), args := xs, argTypes := tys }) ty K := by
 intro a ops Q o ho _ ha hw; refine S4 hw (f := f) (args := (fs ++ vs ++ cs).toArray) ?_ (R := fun e w' => ∃ v, e = .returned v ∧ K v w') hc ?_
 ·simp only [execOp, ho, ha, resolve, J7 hv]; have h1 : ev ρ (.tmp k) = .func (.func f) fs.toArray cs.toArray := hx; simp [h1, Deferred.ofValue, invoke, hfc]
 ·rintro e w' ⟨v, rfl, h⟩; exact ⟨v, rfl, v, rfl, h⟩
theorem X.litsRow (I : St w0 F0 w L G) {e : TypeId} {m : Nat} {parts : Array (Nat × Operand)} (ht : P.underlying t = some (.slice e)) (hs : ∀ w, (sizeOf e).run P w = .ok 1 w) {z : Value} (hz : ∀ w, (zeroValue e).run P w = .ok z w)
  (hi : (parts.toList.map (·.1) == List.range' 0 parts.toList.length) = true) (hn : parts.toList.length = m) (hl : Nat.ble m 16777216 = true)
  (vs : List Value) (hp : (parts.toList.map fun x => ev ρ x.2) = vs) (h1 : Om vs = true)
  {K : Value → World → Prop} (k : ∀ b w', St w0 F0 w' (Af (.slice (some ⟨b, 0, none⟩) m m) e 1 m vs :: L) G → K (.slice (some ⟨b, 0, none⟩) m m) w') : X P ρ w (.buildSlice t m parts) ty K := by
 intro a ops Q o ho _ ha hw; have hl' := Nat.le_of_ble_eq_true hl; have hvs : vs.length = m := by rw [← hp, List.length_map]; exact hn
 have hc : El 1 m (if m * 1 = 0 then #[] else z.cells) (parts.toList.map fun x => (x.1, a.eval x.2)) = some vs.toArray := by
  rw [V1 _ _ 0 hi, show (parts.toList.map fun x => a.eval x.2) = vs by rw [ha]; exact hp]; unfold El; generalize (if m * 1 = 0 then #[] else z.cells) = zz; have h := Q9 vs [] ((List.range (m * 1)).map (zz[· % zz.size]!)) h1 (by simp [hvs]); simp only [List.nil_append, List.length_nil] at h
  have hr : ((List.range (m * 1)).map (zz[· % zz.size]!)).toArray = (Array.range (m * 1)).map (zz[· % zz.size]!) := by
   apply Array.ext'; simp
  rw [hr] at h; exact h
 refine wpl hw (v := .slice (some ⟨w.heap.size, 0, none⟩) m m) (w' := w.alloc (.cells vs.toArray e)) ?_ ⟨_, O, k _ _ ?_⟩
 ·unfold El at hc; have hl2 : ¬ 16777216 < m * 1 := by omega
  by_cases h0 : m * 1 = 0
  ·rw [if_pos h0] at hc; simp at h0; subst h0; simp at hc; simp [execOp, ho, Instr.buildSlice, run_underlying ht, hs, hc, newRow]
  ·simp only [h0, if_false] at hc; simp at h0 hl2 hc; simp [execOp, ho, Instr.buildSlice, run_underlying ht, hs, h0, hl2, hz, hc, newRow]
 ·refine I.alloc _ _ O ?_; exact ⟨by simp [hvs], .inr ⟨w.heap.size, m, vs.toArray, O, Nat.zero_le _, heap_alloc_new w _, Nat.le_refl _, by unfold maxLen; omega, by simp [hvs], by simp [← hvs]⟩⟩
theorem Y.addT {a b : ByteArray} (hx : ev ρ x = .string a) (hy : ev ρ y = .string b) (h : a.size + b.size ≤ 9223372036854775807) : Y P S ρ (.binOp .add t x y t') ty (.string (a ++ b)) := fun w _ o ho _ => by
 have he : ∀ w, (eqGuard .add t x y (.string a) (.string b)).run P w = .ok () w := fun w => by unfold eqGuard; simp
 simp only [execOp, ho, hx, hy]; simp [he, binOp, Op.stringOp]; omega
theorem Y.str {src e dst : TypeId} (hs : P.underlying src = some (.slice e)) (he : P.underlying e = some (.int .u8)) (hd : P.underlying dst = some .string) {v : Value} (hx : ev ρ x = v) {l : List UInt8} {n : Nat} (h : Rds L G v n (bvs l)) (hn : n = l.length) : Y P (Ctx w0 F0 L G) ρ (.convert src dst x) ty (.string (str l)) := fun w hS o ho _ => by
 subst hn; simp [execOp, ho, hx, Be8 hs he (hS.sl h) hd]
end
end
end Go.Proofs.YtaanjifekgfemaaGreat.K
namespace Go.Proofs.YtaanjifekgfemaaGreat.CM
section
open Tryz Go
abbrev W32 := BitVec 32
def Ps : W32 := 0xedb88320#32
def turn1 (c : W32) : W32 := if c.getLsbD 0 then (c >>> 1) ^^^ Ps else c >>> 1
def Ct : Nat → W32 → W32
  | 0, c => c
  | n + 1, c => turn1 (Ct n c)
theorem Zo (n : Nat) (c : W32) : Ct (n + 1) c = Ct n (turn1 c) := by
 induction n with
 | zero => rfl
 | succ n ih => show turn1 (Ct (n + 1) c) = turn1 (Ct n (turn1 c)); rw [ih]
def wide (x : UInt8) : W32 := x.toBitVec.setWidth 32
def reg (c : W32) : List UInt8 → W32
  | [] => c
  | x :: l => reg (Ct 8 (c ^^^ wide x)) l
def more (c : W32) (l : List UInt8) : W32 := ~~~ reg (~~~ c) l
def crc (l : List UInt8) : W32 := more 0#32 l
theorem Mg (c : W32) (l m : List UInt8) : reg c (l ++ m) = reg (reg c l) m := by
 induction l generalizing c with
 | nil => rfl
 | cons x l ih => exact ih _
theorem Yn (c : W32) (l m : List UInt8) : more c (l ++ m) = more (more c l) m := by
 simp [more, Mg]
def iv (c : W32) : Int := (c.toNat : Int)
theorem Nb (c : W32) : 0 ≤ iv c ∧ iv c ≤ 4294967295 := by have := c.isLt; unfold iv; omega
theorem Yw (c : W32) : BitVec.ofInt IntKind.u32.bits (iv c) = c := by
 show BitVec.ofInt 32 (c.toNat : Int) = c; rw [BitVec.ofInt_natCast, BitVec.ofNat_toNat, BitVec.setWidth_eq]
theorem Alz (c : W32) : IntKind.u32.wrap (c.toNat : Int) = iv c := by rw [IntKind.wrap_u32]; have := c.isLt; unfold iv; omega
theorem Qt (c d : W32) : Go.bits .xor .u32 (iv c) (iv d) = iv (c ^^^ d) := by
 unfold Go.bits; simp only [Yw]; exact Alz _
theorem Av7 (c d : W32) : Go.bits .and .u32 (iv c) (iv d) = iv (c &&& d) := by
 unfold Go.bits; simp only [Yw]; exact Alz _
theorem Av9 (c : W32) : Go.bits .xor .u32 4294967295 (iv c) = iv (~~~ c) := by
 have h : (4294967295 : Int) = iv (BitVec.allOnes 32) := rfl; rw [h, Qt, BitVec.allOnes_xor]
theorem Ai8 (c : W32) : iv c / (2 : Int) = iv (c >>> 1) := by unfold iv; rw [BitVec.toNat_ushiftRight]; rw [Nat.shiftRight_eq_div_pow]; omega
theorem Agq (c : W32) : (Go.bits .and .u32 (iv c) 1 = 1) ↔ c.getLsbD 0 = true := by
 have h : (1 : Int) = iv 1#32 := rfl; have hb := Av7 c 1#32; rw [← h] at hb; rw [hb]; have hn : (c &&& 1#32).toNat = c.toNat % 2 := by rw [BitVec.toNat_and]; exact Nat.and_one_is_mod _
 have hg : c.getLsbD 0 = decide (c.toNat % 2 = 1) := by
  rw [BitVec.getLsbD, Nat.testBit_zero]
 unfold iv; rw [hn, hg]; simp; omega
theorem Atx {c : W32} (h : c.getLsbD 0 = true) : turn1 c = (c >>> 1) ^^^ Ps := by unfold turn1; rw [if_pos h]
theorem A6z {c : W32} (h : c.getLsbD 0 = false) : turn1 c = c >>> 1 := by unfold turn1; rw [if_neg (by rw [h]; decide)]
theorem X7 {c : W32} (h : c.getLsbD 0 = true) : Go.bits .xor .u32 (iv c / 2) 3988292384 = iv (turn1 c) := by
 have hp : (3988292384 : Int) = iv Ps := rfl; rw [Ai8, hp, Qt, Atx h]
theorem Ac8 {c : W32} (h : c.getLsbD 0 = false) : iv c / 2 = iv (turn1 c) := by rw [Ai8, A6z h]
theorem Bc7 (x : UInt8) : ((x.toNat : Int)) = iv (wide x) := by
 unfold iv wide; have := x.toNat_lt; simp [BitVec.toNat_setWidth]
theorem Atq (c d : W32) : turn1 (c ^^^ d) = turn1 c ^^^ turn1 d := by
 unfold turn1; rw [BitVec.getLsbD_xor, BitVec.ushiftRight_xor_distrib]; cases c.getLsbD 0 <;> cases d.getLsbD 0 <;> simp
 ·ac_rfl
 ·ac_rfl
 ·rw [show c >>> 1 ^^^ Ps ^^^ (d >>> 1 ^^^ Ps) = (c >>> 1 ^^^ d >>> 1) ^^^ (Ps ^^^ Ps) by ac_rfl]; simp
theorem U1 (n : Nat) (c d : W32) : Ct n (c ^^^ d) = Ct n c ^^^ Ct n d := by
 induction n with
 | zero => rfl
 | succ n ih => show turn1 _ = turn1 _ ^^^ turn1 _; rw [ih, Atq]
theorem Ag0 : turn1 0#32 = 0#32 := by decide
theorem Sy (n : Nat) : Ct n 0#32 = 0#32 := by
 induction n with
 | zero => rfl
 | succ n ih => show turn1 _ = _; rw [ih, Ag0]
theorem Afz {c : W32} (h : turn1 c = 0#32) : c = 0#32 := by
  unfold turn1 at h; split at h
  · exfalso
    have h1 : (c >>> 1).getLsbD 31 = Ps.getLsbD 31 := by
      have : c >>> 1 = Ps := by
        have h2 : (c >>> 1 ^^^ Ps) ^^^ Ps = 0#32 ^^^ Ps := by rw [h]
        rw [BitVec.xor_assoc, BitVec.xor_self, BitVec.xor_zero, BitVec.zero_xor] at h2; exact h2
      rw [this]
    rw [BitVec.getLsbD_ushiftRight] at h1; have h3 : c.getLsbD (1 + 31) = false := BitVec.getLsbD_of_ge _ _ (by omega); rw [h3] at h1; exact absurd h1 (by decide)
  · rename_i hb; apply BitVec.eq_of_getLsbD_eq
    intro i hi; have hb' : c.getLsbD 0 = false := by simpa using hb
    cases i with
    | zero => rw [hb']; simp
    | succ i =>
      have h1 : (c >>> 1).getLsbD i = (0#32).getLsbD i := by rw [h]
      rw [BitVec.getLsbD_ushiftRight] at h1; rw [show i + 1 = 1 + i by omega, h1]; simp
theorem Sx {n : Nat} {c : W32} (h : Ct n c = 0#32) : c = 0#32 := by
 induction n with
 | zero => exact h
 | succ n ih => exact ih (Afz h)
theorem Zx (x y : UInt8) : wide (x ^^^ y) = wide x ^^^ wide y := by
 unfold wide; rw [UInt8.toBitVec_xor]; apply BitVec.eq_of_getLsbD_eq
 intro i hi; simp only [BitVec.getLsbD_setWidth, BitVec.getLsbD_xor]; cases decide (i < 32) <;> simp
def Zz (l m : List UInt8) : List UInt8 := List.zipWith (· ^^^ ·) l m
theorem Ak7 : ∀ (l m : List UInt8) (c d : W32), l.length = m.length → reg (c ^^^ d) (Zz l m) = reg c l ^^^ reg d m
  | [], [], c, d, _ => rfl
  | x :: l, y :: m, c, d, h => by
    have ih := Ak7 l m (Ct 8 (c ^^^ wide x)) (Ct 8 (d ^^^ wide y)) (by simpa using h); show reg (Ct 8 (c ^^^ d ^^^ wide (x ^^^ y))) (Zz l m) = _; rw [Zx, show c ^^^ d ^^^ (wide x ^^^ wide y) = (c ^^^ wide x) ^^^ (d ^^^ wide y) by ac_rfl, U1]; exact ih
end
end Go.Proofs.YtaanjifekgfemaaGreat.CM
namespace Go.Proofs.YtaanjifekgfemaaGreat.CW
section
open Tryz Go.RowKit YtaanjifekgfemaaGreat.K YtaanjifekgfemaaGreat.CM
theorem A70 (c : W32) (w : World) :
  Calls Tryz.prog 99 #[.int .u32 (iv c)] w fun e w' => e = .returned (.int .u32 (iv (Ct 8 c))) ∧ w = w' := by
 go_enter func99, ntmps99
 go_wp2
 go_loop [0, 4] (fun x i => ∃ k : Nat, k ≤ 8 ∧ i = .int .i64 k ∧ x = .int .u32 (iv (Ct k c))) (fun _ i => 8 - (intOf i).toNat)
 case atStart => exact ⟨0, by omega, rfl, rfl⟩
 case round =>
  obtain ⟨k, hk, rfl, rfl⟩ := hrel
  by_cases hlt : k < 8
  ·by_cases hb : (Ct k c).getLsbD 0 = true
   ·have h1 := Lib.hid (X7 hb); have hb' : (Go.bits .and .u32 (iv (Ct k c)) 1 == 1) = true := by simpa using (Agq _).2 hb
    clear hb
    go_wp2
    go_round
    case rel => exact ⟨k + 1, by omega, by go_num, by rw [h1.out]; rfl⟩
    case measure => simp [intOf]; omega
   ·have hb0 : (Ct k c).getLsbD 0 = false := by simpa using hb
    have h1 := Lib.hid (Ac8 hb0)
    have hb' : (Go.bits .and .u32 (iv (Ct k c)) 1 == 1) = false := by
     rw [beq_eq_false_iff_ne]; exact fun h => hb ((Agq _).1 h)
    clear hb hb0; have h0 := (Nb (Ct k c)).1
    go_wp2
    go_round
    case rel => exact ⟨k + 1, by omega, by go_num, by rw [h1.out]; rfl⟩
    case measure => simp [intOf]; omega
  ·obtain rfl : k = 8 := by omega
   go_wp2
   go_ret
   exact ⟨rfl, rfl⟩
theorem Ts (c : W32) : Go.bits .xor .u32 IntKind.u32.max (iv c) = iv (~~~ c) := Av9 c
theorem A42 (c : W32) (l : List UInt8) (k : Nat) (h : k < l.length) : reg c (l.take (k + 1)) = Ct 8 (reg c (l.take k) ^^^ wide l[k]) := by
 rw [List.take_succ_eq_append_getElem h, Mg]; rfl
theorem Jo (c : W32) (v : Value) (l : List UInt8) (w : World) (h : Sl w v l.length (bvs l)) (hl : l.length ≤ 140737488355328) :
  Calls Tryz.prog 97 #[.int .u32 (iv c), v] w fun e w' => e = .returned (.int .u32 (iv (more c l))) ∧ w = w' := by
 obtain ⟨A, cap, rfl, hcap, hA⟩ := h; have hn := Lib.hid (Ts c)
 go_enter func97, ntmps97
 go_wp2
 simp only [hn.out]; clear hn
 go_loop [0, 11] (fun x i => ∃ k : Nat, k ≤ l.length ∧ i = .int .i64 k ∧ x = .int .u32 (iv (reg (~~~ c) (l.take k)))) (fun _ i => l.length - (intOf i).toNat)
 case atStart => exact ⟨0, by omega, rfl, by simp [reg]⟩
 case round =>
  obtain ⟨k, hk, rfl, rfl⟩ := hrel
  by_cases hlt : k < l.length
  ·have hx := A42 (~~~ c) l k hlt; have hx' := Lib.hid hx; clear hx; obtain ⟨ad, rfl, hc⟩ := hA (by intro h0; have h1 := congrArg List.length h0; rw [Ao, List.length_nil] at h1; omega); have hc1 : w.cell? (ad.add k) = some (.int .u8 (l[k].toNat : Int)) := by rw [hc k (by simpa using hlt), Bn9 hlt]; rfl
   clear hc; have hw0 := Lib.hid (Bc7 l[k]); have hxx := Lib.hid (Qt (reg (~~~ c) (l.take k)) (wide l[k])); have h255 : (l[k].toNat : Int) ≤ 255 := by have := l[k].toNat_lt; omega
   go_wp2_with (go_at_call 99; simp only [hw0.out, hxx.out]; refine (A70 _ _).mono ?_; rintro e w' ⟨rfl, rfl⟩)
   go_round
   case rel => exact ⟨k + 1, by omega, by go_num, by rw [hx'.out]⟩
   case measure => simp [intOf]; omega
  ·have hx : l.take k = l := List.take_of_length_le (by omega)
   go_wp2
   go_ret
   exact ⟨by show Ending.returned (.int .u32 _) = _; rw [Ts]; rfl, rfl⟩
def Kk (w : World) : List Value → List (List UInt8) → Prop
  | [], [] => True
  | v :: vs, l :: ls => (Sl w v l.length (bvs l) ∧ l.length ≤ 140737488355328) ∧ Kk w vs ls
  | _, _ => False
theorem Kk.length {w : World} : ∀ {vs : List Value} {ls : List (List UInt8)}, Kk w vs ls → vs.length = ls.length
 | [], [], _ => rfl
 | _ :: vs, _ :: ls, h => by simp [Kk.length h.2]
theorem Kk.get {w : World} : ∀ {vs : List Value} {ls : List (List UInt8)} (h : Kk w vs ls) (k : Nat) (hk : k < ls.length), ∃ v, vs[k]? = some v ∧ Sl w v ls[k].length (bvs ls[k]) ∧ ls[k].length ≤ 140737488355328
  | [], [], _, _, hk => absurd hk (by simp)
  | v :: vs, l :: ls, h, 0, _ => ⟨v, rfl, h.1⟩
  | _ :: vs, _ :: ls, h, k + 1, hk => by
    obtain ⟨v, h1, h2⟩ := Kk.get h.2 k (by simpa using hk); exact ⟨v, by simpa using h1, h2⟩
theorem Aw7 (ls : List (List UInt8)) (k : Nat) (h : k < ls.length) : crc (ls.take (k + 1)).flatten = more (crc (ls.take k).flatten) ls[k] := by
 rw [List.take_succ_eq_append_getElem h, List.flatten_append]; unfold crc; rw [Yn]; simp
theorem Wy (v : Value) (vs : List Value) (ls : List (List UInt8)) (w : World) (h : Sl w v ls.length vs) (hp : Kk w vs ls) (hl : ls.length ≤ 140737488355328) :
  Calls Tryz.prog 95 #[v] w fun e w' => e = .returned (.int .u32 (iv (crc ls.flatten))) ∧ w = w' := by
 obtain ⟨A, cap, rfl, hcap, hA⟩ := h; have hvl := hp.length
 go_enter func95, ntmps95
 go_wp2
 go_loop [3, 8] (fun x i => ∃ k : Nat, k ≤ ls.length ∧ i = .int .i64 k ∧ x = .int .u32 (iv (crc (ls.take k).flatten))) (fun _ i => ls.length - (intOf i).toNat)
 case atStart => exact ⟨0, by omega, rfl, by simp [crc, more, reg, iv]⟩
 case round =>
  obtain ⟨k, hk, rfl, rfl⟩ := hrel
  by_cases hlt : k < ls.length
  ·have hx' := Lib.hid (Aw7 ls k hlt); obtain ⟨u, hu, hs, hln⟩ := hp.get k hlt; obtain ⟨ad, rfl, hc⟩ := hA (by intro h0; rw [h0] at hvl; simp only [List.length_nil] at hvl; omega); have hc1 : w.cell? (ad.add k) = some u := by rw [hc k (by omega), hu]
   clear hc hu
   go_wp2_with (go_at_call 97; refine (Jo _ _ _ _ hs hln).mono ?_; rintro e w' ⟨rfl, rfl⟩)
   go_round
   case rel => exact ⟨k + 1, by omega, by go_num, by rw [hx'.out]⟩
   case measure => simp [intOf]; omega
  ·have hx : ls.take k = ls := List.take_of_length_le (by omega)
   go_wp2
   go_ret
   exact ⟨rfl, rfl⟩
end
end Go.Proofs.YtaanjifekgfemaaGreat.CW
namespace Go.Proofs.YtaanjifekgfemaaGreat.CM
section
open Tryz
def le4 (c : W32) : List UInt8 := [UInt8.ofNat c.toNat, UInt8.ofNat (c.toNat / 256), UInt8.ofNat (c.toNat / 65536), UInt8.ofNat (c.toNat / 16777216)]
theorem H0 (c : W32) : (le4 c).length = 4 := rfl
def B9 (l : List UInt8) : List UInt8 := l ++ le4 (crc l)
theorem Tj (l : List UInt8) : (B9 l).length = l.length + 4 := by simp [B9, H0]
def O6 (l : List UInt8) (n : Nat) : List UInt8 := l.set (n / 8) (l.getD (n / 8) 0 ^^^ UInt8.ofNat (2 ^ (n % 8)))
theorem Vz (l : List UInt8) (n : Nat) : (O6 l n).length = l.length := by simp [O6]
def Ff (l : List UInt8) (a : Nat) (bits : W32) : Nat → List UInt8
  | 0 => l
  | k + 1 => if bits.getLsbD k then O6 (Ff l a bits k) (a + k) else Ff l a bits k
theorem Gf (l : List UInt8) (a : Nat) (bits : W32) (k : Nat) : (Ff l a bits k).length = l.length := by
 induction k with
 | zero => rfl
 | succ k ih => unfold Ff; split <;> simp [Vz, ih]
def one (b : Bool) : W32 := if b then 1#32 else 0#32
def Th (c : W32) : List Bool → W32
  | [] => c
  | b :: l => Th (turn1 (c ^^^ one b)) l
theorem Ix (c : W32) (l m : List Bool) : Th c (l ++ m) = Th (Th c l) m := by
 induction l generalizing c with
 | nil => rfl
 | cons x l ih => exact ih _
theorem Atz : ∀ n : Fin 32, Ct n.val ((1#32 : W32) <<< n.val) = 1#32 := by decide +kernel
def low (d : W32) : Nat → W32
  | 0 => 0#32
  | n + 1 => low d n ^^^ (one (d.getLsbD n) <<< n)
theorem Aj6 (d : W32) (n i : Nat) (hn : n ≤ 32) : (low d n).getLsbD i = (decide (i < n) && d.getLsbD i) := by
  induction n with
  | zero => simp [low]
  | succ n ih =>
    unfold low; rw [BitVec.getLsbD_xor, ih (by omega), BitVec.getLsbD_shiftLeft]
    have h1 : (one (d.getLsbD n)).getLsbD (i - n) = (d.getLsbD n && decide (i - n = 0)) := by
      unfold one; cases d.getLsbD n
      · simp
      · simp [BitVec.getLsbD_one]
    rw [h1]
    by_cases h : i < n
    · have : i < n + 1 := by omega
      simp [h, this]
    · by_cases h2 : i = n
      · subst h2; have : i < 32 := by omega
        simp [this]
      · have h3 : ¬ i < n + 1 := by omega
        have h4 : ¬ i - n = 0 := by omega
        simp [h, h3, h4]
theorem Aj5 (d : W32) : low d 32 = d := by
 apply BitVec.eq_of_getLsbD_eq; intro i hi; rw [Aj6 d 32 i (by omega)]; simp [hi]
theorem A04 (x : UInt8) : low (wide x) 8 = wide x := by
 apply BitVec.eq_of_getLsbD_eq; intro i hi; rw [Aj6 _ 8 i (by omega)]
 by_cases h : i < 8
 ·simp [h]
 ·have : (wide x).getLsbD i = false := by
   unfold wide; rw [BitVec.getLsbD_setWidth]; simp [BitVec.getLsbD_of_ge x.toBitVec i (by omega)]
  simp [h, this]
def Fz (d : W32) (n : Nat) : List Bool := (List.range n).map d.getLsbD
theorem Aa6 (d : W32) (n : Nat) : Fz d (n + 1) = Fz d n ++ [d.getLsbD n] := by simp [Fz, List.range_succ]
theorem Mh (c d : W32) (n : Nat) (hn : n ≤ 32) : Th c (Fz d n) = Ct n (c ^^^ low d n) := by
  induction n with
  | zero => simp [Fz, Th, Ct, low]
  | succ n ih =>
    rw [Aa6, Ix, ih (by omega)]; show turn1 (Ct n (c ^^^ low d n) ^^^ one (d.getLsbD n)) = turn1 (Ct n (c ^^^ low d (n + 1)))
    congr 1
    show _ = Ct n (c ^^^ (low d n ^^^ (one (d.getLsbD n) <<< n))); rw [← BitVec.xor_assoc, U1 n (c ^^^ low d n)]
    congr 1
    unfold one; split
    · exact (Atz ⟨n, by omega⟩).symm
    · rw [BitVec.zero_shiftLeft, Sy]
def Nu (l : List UInt8) : List Bool := l.flatMap fun x => Fz (wide x) 8
theorem Y9 (c : W32) (l : List UInt8) : reg c l = Th c (Nu l) := by
  induction l generalizing c with
  | nil => rfl
  | cons x l ih =>
    show reg (Ct 8 (c ^^^ wide x)) l = Th c (Fz (wide x) 8 ++ Nu l); rw [ih, Ix, Mh _ _ 8 (by omega), A04]
theorem Se (c : W32) (n : Nat) : Th c (List.replicate n false) = Ct n c := by
  induction n generalizing c with
  | zero => rfl
  | succ n ih =>
    rw [List.replicate_succ, Zo]; show Th (turn1 (c ^^^ one false)) _ = _; rw [ih]; simp [one]
def bit (l : List UInt8) (i : Nat) : Bool := (wide (l.getD (i / 8) 0)).getLsbD (i % 8)
theorem An0 (l : List UInt8) : Nu l = (List.range (8 * l.length)).map (bit l) := by
  induction l with
  | nil => rfl
  | cons x l ih =>
    show Fz (wide x) 8 ++ Nu l = _; rw [ih]; have h : 8 * (x :: l).length = 8 + 8 * l.length := by simp; omega
    rw [h, List.range_add, List.map_append, List.map_map]
    have e1 : Fz (wide x) 8 = (List.range 8).map (bit (x :: l)) := by
      unfold Fz; apply List.map_congr_left
      intro i hi; have := List.mem_range.1 hi; simp [bit, Nat.div_eq_of_lt this, Nat.mod_eq_of_lt this]
    rw [e1]
    congr 1
    · apply List.map_congr_left; intro i hi; have h1 : (8 + i) / 8 = i / 8 + 1 := by omega
      have h2 : (8 + i) % 8 = i % 8 := by omega
      simp [bit, h1, h2]
theorem Zw (x : UInt8) (i : Nat) (h : i < 8) : (wide x).getLsbD i = x.toNat.testBit i := by
 unfold wide; rw [BitVec.getLsbD_setWidth]; have h1 : i < 32 := by omega
 simp [h1, BitVec.getLsbD]
theorem Bd9 (r i : Nat) (hr : r < 8) (hi : i < 8) : (wide (UInt8.ofNat (2 ^ r))).getLsbD i = decide (i = r) := by
 rw [Zw _ _ hi]
 have h : (UInt8.ofNat (2 ^ r)).toNat = 2 ^ r := by
  rw [UInt8.toNat_ofNat']; apply Nat.mod_eq_of_lt
  exact Nat.pow_lt_pow_right (by omega) hr
 rw [h, Nat.testBit_two_pow]; exact decide_eq_decide.2 eq_comm
theorem Av6 (l : List UInt8) (n i : Nat) (hn : n / 8 < l.length) : bit (O6 l n) i = (bit l i ^^ decide (i = n)) := by
 unfold bit O6
 by_cases h : i / 8 = n / 8
 ·rw [h]
  have h1 : (l.set (n / 8) (l.getD (n / 8) 0 ^^^ UInt8.ofNat (2 ^ (n % 8)))).getD (n / 8) 0 = l.getD (n / 8) 0 ^^^ UInt8.ofNat (2 ^ (n % 8)) := by
   simp [List.getD_eq_getElem?_getD, hn]
  rw [h1, Zx, BitVec.getLsbD_xor, Bd9 _ _ (by omega) (by omega)]
  congr 1
  exact decide_eq_decide.2 (by omega)
 ·have h1 : (l.set (n / 8) (l.getD (n / 8) 0 ^^^ UInt8.ofNat (2 ^ (n % 8)))).getD (i / 8) 0 = l.getD (i / 8) 0 := by
   simp only [List.getD_eq_getElem?_getD]; rw [List.getElem?_set_ne (fun e => h e.symm)]
  rw [h1]; have h2 : decide (i = n) = false := by simp; omega
  rw [h2, Bool.xor_false]
theorem Aa5 (l : List UInt8) (a : Nat) (bits : W32) (k : Nat) (h : a + k ≤ 8 * l.length) (i : Nat) :
    bit (Ff l a bits k) i = (bit l i ^^ (decide (a ≤ i ∧ i < a + k) && bits.getLsbD (i - a))) := by
  induction k with
  | zero =>
    have : decide (a ≤ i ∧ i < a + 0) = false := decide_eq_false (by omega); rw [this]; simp [Ff]
  | succ k ih =>
    have ih := ih (by omega); unfold Ff
    by_cases hb : bits.getLsbD k = true
    · rw [if_pos hb, Av6 _ _ _ (by rw [Gf]; omega), ih]
      by_cases h1 : i = a + k
      · subst h1; have h2 : ¬ (a ≤ a + k ∧ a + k < a + k) := by omega
        have h3 : a ≤ a + k ∧ a + k < a + (k + 1) := by omega
        simp [hb, h3]
      · have h2 : decide (a ≤ i ∧ i < a + (k + 1)) = decide (a ≤ i ∧ i < a + k) := decide_eq_decide.2 (by omega); simp [h1, h2]
    · rw [if_neg hb, ih]
      by_cases h1 : i = a + k
      · subst h1; have h3 : a ≤ a + k ∧ a + k < a + (k + 1) := by omega
        have hb' : bits.getLsbD k = false := by simpa using hb
        simp [hb']
      · have h2 : decide (a ≤ i ∧ i < a + (k + 1)) = decide (a ≤ i ∧ i < a + k) := decide_eq_decide.2 (by omega); rw [h2]
theorem Amz (n i : Nat) : bit (List.replicate n 0) i = false := by
 unfold bit
 have : (List.replicate n (0 : UInt8)).getD (i / 8) 0 = 0 := by
  rw [List.getD_eq_getElem?_getD, List.getElem?_replicate]; split <;> rfl
 rw [this]; have h0 : wide 0 = 0#32 := rfl; rw [h0]; simp
theorem Bn8 (n a : Nat) (bits : W32) (h : a + 32 ≤ 8 * n) (hb : bits ≠ 0#32) : reg 0#32 (Ff (List.replicate n 0) a bits 32) ≠ 0#32 := by
 rw [Y9, An0, Gf, List.length_replicate]
 have e : (List.range (8 * n)).map (bit (Ff (List.replicate n 0) a bits 32)) = List.replicate a false ++ (Fz bits 32 ++ List.replicate (8 * n - (a + 32)) false) := by
  apply List.ext_getElem
  ·simp [Fz]; omega
  ·intro i h1 h2; rw [List.getElem_map, List.getElem_range, Aa5 _ _ _ _ (by simpa using h), Amz]; simp only [Bool.false_xor]
   by_cases c1 : i < a
   ·have : ¬ (a ≤ i ∧ i < a + 32) := by omega
    rw [List.getElem_append_left (by simpa using c1)]; simp [this]
   ·rw [List.getElem_append_right (by simp; omega)]
    by_cases c2 : i < a + 32
    ·have : a ≤ i ∧ i < a + 32 := by omega
     rw [List.getElem_append_left (by simp [Fz]; omega)]; simp [Fz, this]
    ·have : ¬ (a ≤ i ∧ i < a + 32) := by omega
     rw [List.getElem_append_right (by simp [Fz]; omega)]; simp [this]
 rw [e, Ix, Ix, Se 0#32 a, Sy, Mh _ _ 32 (by omega), Aj5, Se, BitVec.zero_xor]; intro h0; exact hb (Sx (Sx h0))
theorem Av8 (d : W32) : Nu (le4 d) = Fz d 32 := by
 have h : ∀ j : Nat, j < 4 → Fz (wide (UInt8.ofNat (d.toNat / 2 ^ (8 * j)))) 8 = (List.range 8).map (fun i => d.getLsbD (8 * j + i)) := by
  intro j hj; unfold Fz; apply List.map_congr_left
  intro i hi; have hi' := List.mem_range.1 hi; rw [Zw _ _ hi', UInt8.toNat_ofNat']; rw [Nat.testBit_mod_two_pow]; simp only [hi', decide_true, Bool.true_and]; rw [Nat.testBit_div_two_pow]; show _ = d.toNat.testBit _; rw [Nat.add_comm]
 have h0 := h 0 (by omega); have h1 := h 1 (by omega); have h2 := h 2 (by omega); have h3 := h 3 (by omega); simp only [Nat.mul_zero, Nat.pow_zero, Nat.div_one, Nat.zero_add, Nat.mul_one] at h0 h1; unfold Nu le4; simp only [List.flatMap_cons, List.flatMap_nil, List.append_nil]; rw [h0, show (256 : Nat) = 2 ^ 8 from rfl, show (65536 : Nat) = 2 ^ (8 * 2) from rfl, show (16777216 : Nat) = 2 ^ (8 * 3) from rfl, h1, h2, h3]; rfl
theorem Be5 (c d : W32) : reg c (le4 d) = Ct 32 (c ^^^ d) := by rw [Y9, Av8, Mh _ _ 32 (by omega), Aj5]
theorem Sc (l : List UInt8) : reg (~~~ 0#32) (B9 l) = Ct 32 (BitVec.allOnes 32) := by
 unfold B9; rw [Mg, Be5]
 congr 1
 unfold crc more; rw [← BitVec.xor_allOnes (x := reg _ l), ← BitVec.xor_assoc, BitVec.xor_self, BitVec.zero_xor]
theorem Ao0 (l m : List UInt8) (n : Nat) (h : l.length = m.length) : O6 (Zz l m) n = Zz l (O6 m n) := by
 unfold O6 Zz; apply List.ext_getElem
 ·simp
 ·intro i h1 h2; simp only [List.getElem_set, List.getElem_zipWith]; have hi : i < l.length := by simp at h1; omega
  have hi' : i < m.length := by omega
  by_cases e : n / 8 = i
  ·subst e; simp only [if_true]
   have e1 : (List.zipWith (fun x1 x2 => x1 ^^^ x2) l m).getD (n / 8) 0 = l[n / 8] ^^^ m[n / 8] := by
    rw [List.getD_eq_getElem?_getD, List.getElem?_eq_getElem (by simp; omega)]; simp
   have e2 : m.getD (n / 8) 0 = m[n / 8] := by
    rw [List.getD_eq_getElem?_getD, List.getElem?_eq_getElem hi']; rfl
   simp only [e1, e2, UInt8.xor_assoc]
  ·simp only [e, if_false]
theorem Zn (l : List UInt8) (a : Nat) (bits : W32) (k : Nat) : Ff l a bits k = Zz l (Ff (List.replicate l.length 0) a bits k) := by
  induction k with
  | zero =>
    show l = Zz l (List.replicate l.length 0); unfold Zz; apply List.ext_getElem
    · simp
    · intro i h1 h2; simp
  | succ k ih =>
    unfold Ff; split
    · rw [ih, Ao0 _ _ _ (by rw [Gf]; simp)]
    · exact ih
theorem Bx5 (l p t4 : List UInt8) (a : Nat) (bits : W32) (h : a + 32 ≤ 8 * (l.length + 4)) (hb : bits ≠ 0#32) (he : Ff (B9 l) a bits 32 = p ++ t4) : t4 ≠ le4 (crc p) := by
 intro h4; have h1 : p ++ t4 = B9 p := by rw [h4]; rfl
 have h2 := Zn (B9 l) a bits 32; have h3 := Ak7 (B9 l) (Ff (List.replicate (B9 l).length 0) a bits 32) (~~~ 0#32) 0#32 (by rw [Gf]; simp); rw [← h2, he, h1, BitVec.xor_zero, Sc, Sc] at h3
 have h5 : reg 0#32 (Ff (List.replicate (B9 l).length 0) a bits 32) = 0#32 := by
  have := congrArg (fun x => Ct 32 (BitVec.allOnes 32) ^^^ x) h3; simp only [← BitVec.xor_assoc, BitVec.xor_self, BitVec.zero_xor] at this; exact this.symm
 exact Bn8 _ a bits (by rw [Tj]; exact h) hb h5
end
end Go.Proofs.YtaanjifekgfemaaGreat.CM
namespace Go.Proofs.YtaanjifekgfemaaGreat.CW
section
open Tryz Go.RowKit YtaanjifekgfemaaGreat.K YtaanjifekgfemaaGreat.CM
theorem Bg3 (c : W32) : (iv c) % 256 = ((UInt8.ofNat c.toNat).toNat : Int) := by unfold iv; rw [UInt8.toNat_ofNat']; omega
theorem Bg4 (c : W32) : (iv c) / 256 % 256 = ((UInt8.ofNat (c.toNat / 256)).toNat : Int) := by unfold iv; rw [UInt8.toNat_ofNat']; omega
theorem Bg5 (c : W32) : (iv c) / 65536 % 256 = ((UInt8.ofNat (c.toNat / 65536)).toNat : Int) := by unfold iv; rw [UInt8.toNat_ofNat']; omega
theorem Bg6 (c : W32) : (iv c) / 16777216 = ((UInt8.ofNat (c.toNat / 16777216)).toNat : Int) := by unfold iv; rw [UInt8.toNat_ofNat']; have := c.isLt; omega
attribute [local irreducible] iv crc more reg Ct
theorem Bh9 : (Tryz.prog.info? 5).map (fun i => (i.zero, i.size, i.bytes)) = some (some (.int .u8 0), 1, 1) := by kernel_rfl
set_option maxRecDepth 100000 in
set_option maxHeartbeats 4000000 in
theorem seal_any (v : Value) (l : List UInt8) (w0 w : World) (F0 : List Nat) (L G : List Res) (I : St w0 F0 w L G) (h : Rds L G v l.length (bvs l)) (hl : l.length ≤ 140737488355320) :
    Calls Tryz.prog 87 #[v] w fun e w' => ∃ b, e = .returned (.slice (some ⟨b, 0, none⟩) (l.length + 4) (l.length + 4)) ∧ St w0 F0 w' (Aa b (bvs (B9 l)) 5 :: L) G := by
  obtain ⟨A, c, rfl, -, -⟩ := h.sl I; have hc := Nb (crc l)
  go_enter func87, ntmps87
  go_wp2_with (first
    | (refine F9 ?_
       first
       | (refine Wo I (by rfl) O underlying208 O (fun _ => sizeOf172 _) O (fun _ => zeroValue172 _) (by decide) ?_; clear I; intro b1 w1 I; try simp only [Act.eval, Act.put, List.setIfInBounds_toArray, List.set_cons_zero, List.set_cons_succ, Array.getD_eq_getD_getElem?, List.getElem?_toArray, List.getElem?_cons_zero, List.getElem?_cons_succ, Option.getD_some, Value.cells, List.toList_toArray] at I ⊢)
       | (refine Bm6 I (by rfl) O underlying172 Bh9 O (n := l.length + 4) O O (by omega) (by omega) ?_; clear I; intro b2 w1 I; try simp only [Act.eval, Act.put, List.setIfInBounds_toArray, List.set_cons_zero, List.set_cons_succ, Array.getD_eq_getD_getElem?, List.getElem?_toArray, List.getElem?_cons_zero, List.getElem?_cons_succ, Option.getD_some, Value.cells, List.toList_toArray] at I ⊢)
       | (refine Ae5 I 0 (by rfl) O underlying172 (fun _ => sizeOf5 _) (off := 0) O O O (h.cons _) (by simp) (Qw _) (by omega) (by simp) ?_; clear I; intro w1 I; try simp only [Act.eval, Act.put, List.setIfInBounds_toArray, List.set_cons_zero, List.set_cons_succ, Array.getD_eq_getD_getElem?, List.getElem?_toArray, List.getElem?_cons_zero, List.getElem?_cons_succ, Option.getD_some, Value.cells, List.toList_toArray] at I ⊢)
       | (refine A35 I (by rfl) O (vs := bvs (le4 (crc l))) (by simp [Act.eval, Bg3, Bg4, Bg5, Bg6, idx, bvs, le4, bv]) O O underlying172 (fun _ => sizeOf5 _) (fun _ => zeroValue5 _) (by decide) ?_; clear I; intro b3 w1 I; try simp only [Act.eval, Act.put, List.setIfInBounds_toArray, List.set_cons_zero, List.set_cons_succ, Array.getD_eq_getD_getElem?, List.getElem?_toArray, List.getElem?_cons_zero, List.getElem?_cons_succ, Option.getD_some, Value.cells, List.toList_toArray] at I ⊢)
       | (refine Ae5 I 1 (by rfl) rfl underlying172 (fun _ => sizeOf5 _) (off := l.length) rfl rfl rfl (Rds.ofCells 0 rfl 4 4) (by simp [H0]) (Qw _) (by omega) (by rw [Gd _ _ _ (by simp)]; simp [H0]) ?_; clear I; intro w1 I; try simp only [Act.eval, Act.put, List.setIfInBounds_toArray, List.set_cons_zero, List.set_cons_succ, Array.getD_eq_getD_getElem?, List.getElem?_toArray, List.getElem?_cons_zero, List.getElem?_cons_succ, Option.getD_some, Value.cells, List.toList_toArray] at I ⊢))
    | (go_at_call 95
       refine Ab (Wy (.slice (some ⟨b1, 0, none⟩) 1 1) [.slice A l.length c] [l] _ ((Rds.ofCells 0 O 1 1).sl I) ⟨⟨(h.cons _).sl I, by omega⟩, trivial⟩ (by simp)) O ?_
       rintro e w' ⟨rfl, rfl⟩; replace I := I.drop))
  go_ret
  refine ⟨b2, O, ?_⟩
  have e : splice (splice (List.replicate (l.length + 4) (.int .u8 0)) 0 (bvs l)) l.length (bvs (le4 (crc l))) = bvs (B9 l) := by
    unfold splice B9; rw [Qv]; simp [H0]
  rw [e] at I; exact I.drop
theorem open_short (v : Value) (l : List UInt8) (w0 w : World) (F0 : List Nat) (L G : List Res) (I : St w0 F0 w L G) (h : Rds L G v l.length (bvs l)) (hl : l.length < 4) :
  Calls Tryz.prog 83 #[v] w fun e w' => e = .returned (.tuple #[.slice none 0 0, .bool false]) ∧ St w0 F0 w' L G := by
 obtain ⟨A, c, rfl, -, -⟩ := h.sl I; have hd : decide ((l.length : Int) - 4 < 0) = true := by simp; omega
 go_enter func83, ntmps83
 go_wp2
 go_ret2
 exact ⟨O, I⟩
theorem Bi2 (c : W32) (s0 s1 s2 s3 : UInt8) :
  ([s0, s1, s2, s3] = le4 c ∧ ((s0.toNat : Int) != iv c % 256) = false ∧ ((s1.toNat : Int) != iv c / 256 % 256) = false ∧ ((s2.toNat : Int) != iv c / 65536 % 256) = false ∧ ((s3.toNat : Int) != iv c / 16777216) = false) ∨
  ([s0, s1, s2, s3] ≠ le4 c ∧ (((s0.toNat : Int) != iv c % 256) = true ∨
   ((s0.toNat : Int) != iv c % 256) = false ∧ (((s1.toNat : Int) != iv c / 256 % 256) = true ∨
    ((s1.toNat : Int) != iv c / 256 % 256) = false ∧ (((s2.toNat : Int) != iv c / 65536 % 256) = true ∨
     ((s2.toNat : Int) != iv c / 65536 % 256) = false ∧ ((s3.toNat : Int) != iv c / 16777216) = true)))) := by
 rw [Bg3, Bg4, Bg5, Bg6]; simp only [le4, List.cons.injEq, and_true, ne_eq, bne_eq_false_iff_eq, bne_iff_ne]; have q : ∀ a b : UInt8, (a.toNat : Int) = (b.toNat : Int) ↔ a = b := fun a b => ⟨fun h => UInt8.toNat_inj.1 (by omega), fun h => by rw [h]⟩; simp only [q]
 by_cases h0 : s0 = UInt8.ofNat c.toNat <;> by_cases h1 : s1 = UInt8.ofNat (c.toNat / 256) <;> by_cases h2 : s2 = UInt8.ofNat (c.toNat / 65536) <;> by_cases h3 : s3 = UInt8.ofNat (c.toNat / 16777216) <;> simp [h0, h1, h2, h3]
theorem Bi3 {w : World} {ad : Addr} {n c : Nat} {p : List UInt8} {s0 s1 s2 s3 : UInt8} (h : Sl w (.slice (some ad) n c) n (bvs (p ++ [s0, s1, s2, s3]))) :
  w.cell? (ad.add p.length) = some (.int .u8 (s0.toNat : Int)) ∧ w.cell? ⟨ad.block, ad.off + (p.length + 1), none⟩ = some (.int .u8 (s1.toNat : Int)) ∧
  w.cell? ⟨ad.block, ad.off + (p.length + 2), none⟩ = some (.int .u8 (s2.toNat : Int)) ∧ w.cell? ⟨ad.block, ad.off + (p.length + 3), none⟩ = some (.int .u8 (s3.toNat : Int)) := by
 obtain ⟨A, cap, he, hcap, hA⟩ := h; injection he with he; obtain ⟨ad', rfl, hc⟩ := hA (by simp [bvs]); injection he with he; subst he; have e : ∀ k, (⟨ad.block, ad.off + (p.length + (k + 1)), none⟩ : Addr) = ad.add (p.length + (k + 1)) := fun k => by simp [Addr.add]
 refine ⟨?_, ?_, ?_, ?_⟩
 ·rw [hc _ (by simp)]; simp [bvs, bv]
 ·rw [e 0, hc _ (by simp)]; simp [bvs, bv]
 ·rw [e 1, hc _ (by simp)]; simp [bvs, bv]
 ·rw [e 2, hc _ (by simp)]; simp [bvs, bv]
theorem Sl.take {w : World} {A : Option Addr} {n c m : Nat} {l : List UInt8} (h : Sl w (.slice A n c) n (bvs l)) (hn : n = l.length) (hm : m ≤ n) : Sl w (.slice A m c) m (bvs (l.take m)) := by
  obtain ⟨A', cap, he, hcap, hA⟩ := h; injection he with h1 h2 h3; subst h1; subst h3; refine ⟨A, c, rfl, by omega, fun hx => ?_⟩
  obtain ⟨ad, rfl, hc⟩ := hA (by intro h; apply hx; have : l = [] := by cases l; rfl; simp [bvs] at h
                                 subst this; simp [bvs])
  refine ⟨ad, rfl, fun j hj => ?_⟩; simp only [Ao, List.length_take] at hj; rw [hc j (by simp; omega)]; simp only [bvs, List.map_take]; rw [List.getElem?_take_of_lt (by omega)]
theorem Rds.take {L G : List Res} {A : Option Addr} {n c m : Nat} {l : List UInt8} (h : Rds L G (.slice A n c) n (bvs l)) (hn : n = l.length) (hm : m ≤ n) : Rds L G (.slice A m c) m (bvs (l.take m)) := by
 obtain ⟨r, hr, hi⟩ := h; exact ⟨r, hr, fun w hw => Sl.take (hi w hw) hn hm⟩
set_option maxRecDepth 100000 in
set_option maxHeartbeats 4000000 in
theorem open_no (v : Value) (p : List UInt8) (s0 s1 s2 s3 : UInt8) (w0 w : World) (F0 : List Nat) (L G : List Res) (I : St w0 F0 w L G) (h : Rds L G v (p.length + 4) (bvs (p ++ [s0, s1, s2, s3])))
    (hl : p.length ≤ 140737488355320) (hne : [s0, s1, s2, s3] ≠ le4 (crc p)) :
    Calls Tryz.prog 83 #[v] w fun e w' => e = .returned (.tuple #[.slice none 0 0, .bool false]) ∧ St w0 F0 w' L G := by
  obtain ⟨A, c, rfl, hcap, hA⟩ := h.sl I; obtain ⟨ad, rfl, -⟩ := hA (by simp [bvs]); clear hA
  have hp : Rds L G (.slice (some ad) p.length c) p.length (bvs p) := by
    have := Rds.take (m := p.length) h (by simp) (by omega); rwa [List.take_left] at this
  have hd : decide ((p.length : Int) < 0) = false := by simp
  have hc0 := Nb (crc p); rcases Bi2 (crc p) s0 s1 s2 s3 with ⟨he, _⟩ | ⟨_, hparts⟩
  · exact absurd he hne
  rcases hparts with t0 | ⟨t0, t1 | ⟨t1, t2 | ⟨t2, t3⟩⟩⟩
  all_goals
    go_enter func83, ntmps83
    go_wp2_with (first
      | (refine F9 ?_
         (refine Wo I (by rfl) O underlying208 O (fun _ => sizeOf172 _) O (fun _ => zeroValue172 _) (by decide) ?_; clear I; intro b1 w1 I; try simp only [Act.eval, Act.put, List.setIfInBounds_toArray, List.set_cons_zero, List.set_cons_succ, Array.getD_eq_getD_getElem?, List.getElem?_toArray, List.getElem?_cons_zero, List.getElem?_cons_succ, Option.getD_some, Value.cells, List.toList_toArray] at I ⊢))
      | (go_at_call 95
         refine Ab (Wy (.slice (some ⟨b1, 0, none⟩) 1 1) [.slice (some ad) p.length c] [p] _ ((Rds.ofCells 0 O 1 1).sl I) ⟨⟨(hp.cons _).sl I, by omega⟩, trivial⟩ (by simp)) O ?_; rintro e w' ⟨rfl, rfl⟩; replace I := I.drop
         obtain ⟨q0, q1, q2, q3⟩ := Bi3 (h.sl I)))
    go_ret2
    exact ⟨O, I⟩
set_option maxRecDepth 100000 in
set_option maxHeartbeats 4000000 in
theorem open_yes (v : Value) (p : List UInt8) (w0 w : World) (F0 : List Nat) (L G : List Res) (I : St w0 F0 w L G) (h : Rds L G v (p.length + 4) (bvs (B9 p)))
    (hl : p.length ≤ 140737488355320) :
    Calls Tryz.prog 83 #[v] w fun e w' => ∃ u, e = .returned (.tuple #[u, .bool true]) ∧ St w0 F0 w' (Af u 5 1 p.length (bvs p) :: L) G := by
  obtain ⟨s0, s1, s2, s3, hs⟩ : ∃ s0 s1 s2 s3, le4 (crc p) = [s0, s1, s2, s3] := ⟨_, _, _, _, rfl⟩; unfold B9 at h; rw [hs] at h; obtain ⟨A, c, rfl, hcap, hA⟩ := h.sl I; obtain ⟨ad, rfl, -⟩ := hA (by simp [bvs]); clear hA
  have hp : Rds L G (.slice (some ad) p.length c) p.length (bvs p) := by
    have := Rds.take (m := p.length) h (by simp) (by omega); rwa [List.take_left] at this
  have hd : decide ((p.length : Int) < 0) = false := by simp
  have hc0 := Nb (crc p); rcases Bi2 (crc p) s0 s1 s2 s3 with ⟨he, t0, t1, t2, t3⟩ | ⟨hne, _⟩
  · clear he hs
    go_enter func83, ntmps83
    go_wp2_with (first
      | (refine F9 ?_
         first
         | (refine Wo I (by rfl) O underlying208 O (fun _ => sizeOf172 _) O (fun _ => zeroValue172 _) (by decide) ?_; clear I; intro b1 w1 I; try simp only [Act.eval, Act.put, List.setIfInBounds_toArray, List.set_cons_zero, List.set_cons_succ, Array.getD_eq_getD_getElem?, List.getElem?_toArray, List.getElem?_cons_zero, List.getElem?_cons_succ, Option.getD_some, Value.cells, List.toList_toArray] at I ⊢)
         | (refine Y6 I (by rfl) O underlying172 (fun _ => sizeOf5 _) ?_; clear I; rintro v2 w1 I -; try simp only [Act.eval, Act.put, List.setIfInBounds_toArray, List.set_cons_zero, List.set_cons_succ, Array.getD_eq_getD_getElem?, List.getElem?_toArray, List.getElem?_cons_zero, List.getElem?_cons_succ, Option.getD_some, Value.cells, List.toList_toArray] at I ⊢)
         | (refine Y5 I 0 (by rfl) rfl underlying172 Bh9 rfl (by decide) (v := v2) (n := 0) (xs := []) rfl rfl (m := p.length) (news := bvs p) rfl (hp.cons _) (by simp) (Qw _) (by simp only [maxLen]; omega) (by omega) ?_; clear I; rintro v3 w1 I -; try simp only [Act.eval, Act.put, List.setIfInBounds_toArray, List.set_cons_zero, List.set_cons_succ, Array.getD_eq_getD_getElem?, List.getElem?_toArray, List.getElem?_cons_zero, List.getElem?_cons_succ, Option.getD_some, Value.cells, List.toList_toArray] at I ⊢))
      | (go_at_call 95
         refine Ab (Wy (.slice (some ⟨b1, 0, none⟩) 1 1) [.slice (some ad) p.length c] [p] _ ((Rds.ofCells 0 O 1 1).sl I) ⟨⟨(hp.cons _).sl I, by omega⟩, trivial⟩ (by simp)) O ?_; rintro e w' ⟨rfl, rfl⟩; replace I := I.drop
         obtain ⟨q0, q1, q2, q3⟩ := Bi3 (h.sl I)))
    go_ret2
    refine ⟨v3, O, ?_⟩; simpa using I
  · exact absurd hs.symm hne
end
end Go.Proofs.YtaanjifekgfemaaGreat.CW
namespace Go.Proofs.YtaanjifekgfemaaGreat.W
section
open Tryz Go.RowKit YtaanjifekgfemaaGreat.K YtaanjifekgfemaaGreat.CM
theorem Kb (l : List UInt8) : (B9 l).length = l.length + 4 := by unfold B9; rw [List.length_append, H0]
def ub (n : Int) : UInt8 := UInt8.ofNat (n % 256).toNat
def fl1 (good : Bool) : Int := match good with | true => 1 | false => 0
def fl (good ref : Bool) : Int := match ref with | true => fl1 good + 2 | false => fl1 good
theorem Bt7 {x : ByteArray × Int} {s : ByteArray} {i : Int} (h : x = (s, i)) : Ending.returned (.tuple #[.string s, .int .i64 i]) = .returned (.tuple #[.string x.1, .int .i64 x.2]) := by rw [h]
def tin (l : List (Int × Int)) : List Int := l.flatMap fun x => [x.1, x.2]
theorem Mp (l : List (Int × Int)) : (tin l).length = 2 * l.length := by
 induction l with
 | nil => rfl
 | cons x l ih => simp [tin] at ih ⊢; omega
def hd4 (kind from_ : Int) (good ref : Bool) (n : Nat) : List UInt8 := [ub kind, ub from_, ub (fl good ref), ub (n : Int)]
def fr (kind from_ slo shi held hops : Int) (good ref : Bool) (elo ehi pulse time num : Int) (tab : List (Int × Int)) : List UInt8 :=
  hd4 kind from_ good ref tab.length ++ E6 [slo, shi, held, hops, elo, ehi, pulse, time, num] ++ E6 (tin tab)
theorem N4 (kind from_ slo shi held hops : Int) (good ref : Bool) (elo ehi pulse time num : Int) (tab : List (Int × Int)) : (fr kind from_ slo shi held hops good ref elo ehi pulse time num tab).length = 76 + 16 * tab.length := by
 unfold fr; rw [List.length_append, List.length_append, Gn, Gn, Mp]; simp [hd4]; omega
theorem A71 (n : Int) : Value.int .u8 (IntKind.u8.wrap n) = bv (ub n) := by
 rw [Am0]; unfold bv ub; rw [UInt8.toNat_ofNat']; exact congrArg (Value.int .u8) (by rw [show (2 : Nat) ^ 8 = 256 from rfl]; omega)
theorem Aj7 {l : List (Int × Int)} {k : Nat} (h : k < l.length) : l.take (k + 1) = l.take k ++ [lp l k] := by
 rw [List.take_succ_eq_append_getElem h]; simp [lp, h]
theorem A6x {l : List (Int × Int)} {k : Nat} (h : k < l.length) : E6 (tin (l.take (k + 1))) = E6 (tin (l.take k)) ++ E6 [(lp l k).1, (lp l k).2] := by
 rw [Aj7 h]; simp [tin, E6]
def Au6 (kind from_ slo shi held hops elo ehi pulse time num : Int) (tab : List (Int × Int)) : Prop := tab.length ≤ 9223372036854775807 ∧ (∀ x ∈ tab, Bz x.1 ∧ Bz x.2) ∧ (∀ x ∈ [kind, from_, slo, shi, held, hops, elo, ehi, pulse, time, num], Bz x)
def Okm (kind from_ slo shi held hops elo ehi pulse time num : Int) (tab : List (Int × Int)) : Prop := Jf kind from_ slo shi held hops elo ehi pulse time num ∧ Km tab
instance (kind from_ slo shi held hops elo ehi pulse time num : Int) (tab : List (Int × Int)) : Decidable (Okm kind from_ slo shi held hops elo ehi pulse time num tab) := by unfold Okm; infer_instance
def An9 (kind from_ slo shi held hops : Int) (good ref : Bool) (elo ehi pulse time num : Int) (tab : List (Int × Int)) : ByteArray × Int := if Okm kind from_ slo shi held hops elo ehi pulse time num tab then (str (B9 (fr kind from_ slo shi held hops good ref elo ehi pulse time num tab)), 0) else (⟨#[]⟩, 1)
theorem Bi1 {slo shi held hops elo ehi pulse time num kind from_ : Int} (h : ∀ x ∈ [kind, from_, slo, shi, held, hops, elo, ehi, pulse, time, num], Bz x) : ∀ x ∈ [slo, shi, held, hops, elo, ehi, pulse, time, num], Bz x := by
 intro x hx; refine h x ?_; exact List.mem_cons_of_mem _ (List.mem_cons_of_mem _ hx)
theorem A8z {S ρ ty} {parts : Array (Nat × Operand)} {x0a : Option Addr} {x0l x0c : Nat} (hp : (parts.toList.map fun x => (x.1, ev ρ x.2)) = [(0, Value.slice x0a x0l x0c)]) : Y Tryz.prog S ρ (.build 183 parts) ty (.agg #[Value.slice x0a x0l x0c]) :=
 Y.build hp fun w => by simp [Instr.build, go_sem]
theorem M4 : FA 103 5 6 := fun _ _ => by simp [Instr.fieldAt, Instr.sureAddr, go_sem]
theorem Vi : FA 103 6 7 := fun _ _ => by simp [Instr.fieldAt, Instr.sureAddr, go_sem]
theorem Bs5 : CF 85 := fun _ _ => by simp [go_sem]
theorem Bw1 : CF 87 := fun _ _ => by simp [go_sem]
theorem cfN : CF 86 := fun _ _ => by simp [go_sem]
set_option maxHeartbeats 4000000 in
theorem Z2 (kind from_ slo shi held hops : Int) (good ref : Bool) (elo ehi pulse time num : Int) (tab : List (Int × Int)) (A : Option Addr) (cap : Nat) (w0 w : World) (F0 : List Nat) (L G : List Res) (I : St w0 F0 w L G)
  (hr : Rds L G (.slice A tab.length cap) tab.length (lcs tab)) (hin : Au6 kind from_ slo shi held hops elo ehi pulse time num tab) :
  Calls Tryz.prog 61 #[.agg #[.int .i64 kind, .int .i64 from_, .int .i64 slo, .int .i64 shi, .int .i64 held, .int .i64 hops, .bool good, .bool ref, .int .i64 elo, .int .i64 ehi, .int .i64 pulse, .int .i64 time, .int .i64 num, .slice A tab.length cap]] w fun e w' => e = .returned (.tuple #[.string (An9 kind from_ slo shi held hops good ref elo ehi pulse time num tab).1, .int .i64 (An9 kind from_ slo shi held hops good ref elo ehi pulse time num tab).2]) ∧ St w0 F0 w' L G := by
 obtain ⟨hlen, hwf, hx64⟩ := hin; refine W.func func61 O ntmps61 O<|Wh O<|Ow O (X.boxA I O<|?_); clear I; intro p1 w1 I; refine I.y O (Y.assignT O)<|I.a O O<|Od O<|Wq O<|Wh O<|I.y O (Y.loadA 0 isAgg103 sizeOf103 O O O O)<|Oc O Bs5 O ?_; refine Ab (Xz _ _ _ _ _ _ _ _ _ _ _ _ _ tab _ _ _ _ _ _ _ I (hr.cons _) hlen hwf) O ?_; clear I; rintro e w1 ⟨b10, rfl, hb10, I⟩; refine ⟨_, O, ?_⟩; cases b10
 ·replace hb10 := dF hb10; refine I.q O O<|Od O<|Wt O O<|Wh O<|I.y O (Y.assignT O)<|I.a O O<|Od O<|We O<|⟨_, Ac.two results61 O O, ?_⟩; exact ⟨Bt7 (by unfold An9; exact if_neg hb10), I.drop⟩
 ·replace hb10 := dT hb10; refine I.q O O<|Od O<|Wu O O<|Wk O<|Wh O<|I.a O O<|Od O<|Wq O<|Wh O<|I.f M4 O O<|I.y O (Y.load 0 isAgg4 O O O)<|Od O<|?_; refine W.cut [(1, .pointer _)] (fun _ : Unit => [(4, .int .i64 (fl1 good))]) (fun _ w => St w0 F0 w (Aa p1 [.int .i64 kind, .int .i64 from_, .int .i64 slo, .int .i64 shi, .int .i64 held, .int .i64 hops, .bool good, .bool ref, .int .i64 elo, .int .i64 ehi, .int .i64 pulse, .int .i64 time, .int .i64 num, .slice A tab.length cap] 103 :: L) G) ⟨O, trivial⟩ ?_ ?_
  rotate_left
  ·clear I; rintro _ j w2 I; refine Wq O<|Wh O<|I.f Vi O O<|I.y O (Y.load 0 isAgg4 O O O)<|Od O<|?_; refine W.cut [(1, .pointer _)] (fun _ : Unit => [(4, .int .i64 (fl good ref))]) (fun _ w => St w0 F0 w (Aa p1 [.int .i64 kind, .int .i64 from_, .int .i64 slo, .int .i64 shi, .int .i64 held, .int .i64 hops, .bool good, .bool ref, .int .i64 elo, .int .i64 ehi, .int .i64 pulse, .int .i64 time, .int .i64 num, .slice A tab.length cap] 103 :: L) G) ⟨O, trivial⟩ ?_ ?_
   rotate_left
   ·clear I; rintro _ j w2 I; refine Wq O ?_; have htl := hb10.2.1; have hok : Okm kind from_ slo shi held hops elo ehi pulse time num tab := hb10; refine Wr O<|I.f Ha O O<|I.l 0 O O O O<|I.y O (Y.conv underlying5 underlying3 O)<|I.f Co O O<|I.l 0 O O O O<|I.y O (Y.conv underlying5 underlying3 O)<|I.u O O<|I.y O (Y.conv underlying5 underlying3 O)<|I.f Fl O O<|I.y O (Y.load 0 isAgg41 O O O)<|I.y O (Y.lenS underlying41 O)<|I.y O (Y.conv underlying5 underlying3 O)<|Ow O (X.litsRow I underlying172 sizeOf5 zeroValue5 (by rfl) (by rfl) (by rfl) [.int _ _, .int _ _, .int _ _, .int _ _] (by rfl) (by rfl)<|?_); clear I; intro p32 w32 I; simp only [A71] at I; replace I : St w0 F0 _ (Af (.slice (some ⟨p32, 0, none⟩) 4 4) 5 1 (hd4 kind from_ good ref tab.length).length (bvs (hd4 kind from_ good ref tab.length)) :: Aa p1 [.int .i64 kind, .int .i64 from_, .int .i64 slo, .int .i64 shi, .int .i64 held, .int .i64 hops, .bool good, .bool ref, .int .i64 elo, .int .i64 ehi, .int .i64 pulse, .int .i64 time, .int .i64 num, .slice A tab.length cap] 103 :: L) G := I; refine I.y O (A8z O)<|Ow O (X.boxA I O<|?_); clear I; intro p34 w34 I; refine I.y O (Y.assignP O)<|Ds O O<|I.p O O<|I.y O (Y.makeFunc (fs := [.pointer _]) (cs := []) O O)<|I.y O (Y.assignV O)<|Ds O O<|I.y O (Y.moveV O)<|I.f D0 O O<|I.f Fm O O<|I.l 2 O O O O<|I.f D0 O O<|I.f Fb O O<|I.l 2 O O O O<|I.f Ib O O<|I.l 2 O O O O<|I.f Hb O O<|I.l 2 O O O O<|I.f Gb O O<|I.f Fm O O<|I.l 2 O O O O<|I.f Gb O O<|I.f Fb O O<|I.l 2 O O O O<|I.f P2 O O<|I.l 2 O O O O<|I.f Hc O O<|I.f E1 O O<|I.l 2 O O O O<|I.f Hc O O<|I.f I6 O O<|I.l 2 O O O O<|Ow O (Xl I (by rfl) (by rfl) (by rfl) [.int _ _, .int _ _, .int _ _, .int _ _, .int _ _, .int _ _, .int _ _, .int _ _, .int _ _] (by rfl) (by rfl)<|?_); clear I; intro p62 w62 I; have hup := I.up3.up3; refine Ow O (X.callV (fs := [_]) (cs := []) cfN O O<|Ab (Yv _ (hd4 kind from_ good ref tab.length) _ _ _ [slo, shi, held, hops, elo, ehi, pulse, time, num] _ _ _ _ _ hup (Rds.ofCells 0 O 9 9) (Bi1 hx64) (by simp [hd4])) O<|?_); clear I hup; rintro e w2 ⟨rfl, v2, I⟩; refine ⟨_, O, ?_⟩; replace I := I.up3.drop; refine Od O<|Wq O<|Wh O<|I.f Fl O O<|I.y O (Y.load 2 isAgg41 O O O)<|I.y O (Y.lenS underlying41 O)<|I.u O O<|Od O<|Wb O<|?_; refine W.loop (γ := Nat) [(5, .pointer _), (6, _), (65, .slice _ _ _), (66, .int _ _)] (fun k => [(67, .int .i64 (k : Int))]) (fun k w => k ≤ tab.length ∧ ∃ v, St w0 F0 w (Aa p34 [v] 183 :: Af v 5 1 (hd4 kind from_ good ref tab.length ++ E6 [slo, shi, held, hops, elo, ehi, pulse, time, num] ++ E6 (tin (tab.take k))).length (bvs (hd4 kind from_ good ref tab.length ++ E6 [slo, shi, held, hops, elo, ehi, pulse, time, num] ++ E6 (tin (tab.take k)))) :: L) G) (fun k => tab.length - k) (0) O ⟨O, O, O, O, trivial⟩ ?_ ?_ ?_
    ·exact ⟨O, trivial⟩
    ·replace I := I.up3.drop; exact ⟨by omega, v2, by simpa [tin, E6] using I⟩
    ·clear I; rintro k j w3 ⟨hk, v3, I⟩
     have hacc : (hd4 kind from_ good ref tab.length ++ E6 [slo, shi, held, hops, elo, ehi, pulse, time, num] ++ E6 (tin (tab.take k))).length = 76 + 16 * k := by
      rw [List.length_append, List.length_append, Gn, Gn, Mp, List.length_take]; simp [hd4]; omega
     refine Wh O<|I.v O O O (fun b68 hb68 => Od O<|Wq O<|?_); cases b68
     ·replace hb68 := dF hb68; refine Wu O O<|W.exit O<|Wq O<|?_; have hkk : k = tab.length := by omega
      subst hkk; refine Wr O<|I.p O O<|I.t O O<|I.f Vn O O<|I.y O (Y.load 0 isAgg172 O O O)<|Oc O Bw1 O ?_; refine Ab (CW.seal_any _ _ _ _ _ _ _ I (Rds.rowL 1 O) (by omega)) O ?_; clear I; rintro e w5 ⟨p83, rfl, I⟩; refine ⟨_, O, ?_⟩; refine I.y O (Y.str underlying172 underlying5 underlying9 O (Rds.ofCells 0 O _ _) (Kb _).symm)<|I.y O (Y.assignT O)<|I.a O O<|Od O<|We O<|⟨_, Ac.two results61 O O, ?_⟩; exact ⟨Bt7 (by unfold An9; rw [if_pos hok]; unfold fr; rw [List.take_length]), I.drop.drop.drop⟩
     ·replace hb68 := dT hb68; refine Wt O O<|Wk O<|Wq O<|Wb O<|Wq O<|?_; have hk1 : k < tab.length := by omega
      have hlp := hwf _ (Wa hk1); refine Wr rfl<|I.y rfl (Y.indexAddr underlying41 sizeOf114 rfl rfl ((((hr.cons _).cons _).sl I).ne (by rw [Ea]; omega)) (by omega))<|?_; refine I.y O (Y.loadSlA isAgg114 sizeOf114 O ((hr.cons _).cons _) (Lg hk1) O)<|Ow O (X.allocA I zeroValue114<|?_); clear I; intro p8 w8 I; refine Ow O (X.storeS I 0 sizeOf114 O O O O O (lZ O) O O ?_); clear I; intro w13_3 I
      try simp only [List.set_cons_zero, List.set_cons_succ, Nat.zero_add, Nat.reduceAdd, splice, List.take, List.drop, List.append_eq, List.nil_append, List.cons_append, List.length_cons, List.length_nil] at I
      refine Od O<|Wr O<|I.y O (Y.moveV O)<|I.f Ic O O<|I.l 0 O O O O<|I.f Ee O O<|I.l 0 O O O O<|Ow O (Xl I (by rfl) (by rfl) (by rfl) [.int _ _, .int _ _] (by rfl) (by rfl)<|?_); clear I; intro p76 w76 I; have hup := I.up4.up4; refine Ow rfl (X.callV (fs := [_]) (cs := []) cfN rfl rfl<|Ab (Yv _ _ _ _ _ [(lp tab k).1, (lp tab k).2] _ _ _ _ _ hup (Rds.ofCells 0 rfl 2 2) (by intro x hx; simp only [List.mem_cons, List.not_mem_nil, or_false] at hx; rcases hx with rfl | rfl; exact hlp.1; exact hlp.2) (by rw [hacc]; simp; omega)) rfl<|?_); clear I hup; rintro e w4 ⟨rfl, v4, I⟩; refine ⟨_, O, ?_⟩; replace I := I.up3.drop.up3.drop; refine Od O<|Wr O<|I.j O O O (by omega)<|I.u O O<|Od O<|?_; exact ⟨k + 1, ⟨O, trivial⟩, ⟨O, O, O, O, trivial⟩, ⟨by omega, v4, by rw [A6x hk1, ← List.append_assoc]; exact I⟩, by omega⟩
   cases ref
   ·skip
    refine Wu O O<|Wk O<|?_; exact ⟨(), ⟨O, trivial⟩, ⟨O, trivial⟩, I⟩
   ·skip
    refine Wt rfl rfl<|Wr rfl<|I.u rfl rfl<|I.y rfl (Y.addI rfl rfl (by cases good <;> simp [fl1]))<|?_; refine I.a O O<|Od O<|?_; exact ⟨(), ⟨O, trivial⟩, ⟨O, trivial⟩, I⟩
  cases good
  ·skip
   refine Wu O O<|Wk O<|?_; exact ⟨(), ⟨O, trivial⟩, ⟨O, trivial⟩, I⟩
  ·skip
   refine Wt O O<|Wr O<|I.u O O<|I.j O O O (by omega)<|I.a O O<|Od O<|?_; exact ⟨(), ⟨O, trivial⟩, ⟨O, trivial⟩, I⟩
end
end Go.Proofs.YtaanjifekgfemaaGreat.W
namespace Go.Proofs.YtaanjifekgfemaaGreat.K
section
open Tryz Go.RowKit
section
variable {P : Program} {n : Fr} {c : Code} {Q : Ez} {ρ : Env} {w0 w : World} {F0 : List Nat} {L G : List Res} {S : World → Prop} {ty t t' : TypeId} {x y : Operand}
def XP (P : Program) (ρ : Env) (w : World) (op : Op) (ty : TypeId) (K : List PanicEntry → World → Prop) : Prop :=
  ∀ (a : Act) (ops : Array Oper) (Q : Exit → Act → World → Prop) (o : Oper) (next : Act → World → Prop), o.op = op → o.type = ty → a.eval = ev ρ → Region.wanted o (yielded ops a.tmps) = true → (∀ ch w', K ch w' → Q (.panic ch) a w') → opK P ops Q o next a w
theorem Ops.xp {i : Nat} {d : Option Nat} {op : Op} {ty : TypeId} {ps : String} {af : Array Edge} {gd : Option (Nat × Bool)} (ho : Dm c i = some ⟨d, op, ty, ps, af, gd⟩) (hw : D6 c ρ gd = true)
  (hx : XP P ρ w op ty (fun ch w' => Q (.panic ch) ρ w')) : Ops P n c Q i ρ w := by
 refine ⟨fun a ha => ?_⟩; rw [F7 ho]; refine F9 ?_; have hw' := Gq (c := c) (o := ⟨d, op, ty, ps, af, gd⟩) ha; rw [hw] at hw'; exact hx a (D2 c) (Rx n Q) ⟨d, op, ty, ps, af, gd⟩ _ rfl rfl ha.eval hw' (fun ch w' h => ⟨ρ, ⟨ha.defers, fun t _ => ha.get t⟩, h⟩)
theorem XP.panic {t : TypeId} {v : Value} (hx : ev ρ x = .iface t v) {K : List PanicEntry → World → Prop} (k : K [{ v := .iface t v, recovered := false }] w) : XP P ρ w (.panic x) ty K := by
 intro a ops Q o next ho _ ha hw hk; unfold opK; rw [if_pos hw]; unfold Oper.wp
 have : (execOp a.eval o).run P w = .halt (.panic (.iface t v)) w := by
  simp [execOp, ho, ha, hx, Instr.panic, goPanic]
 rw [this]; exact hk _ _ k
theorem XP.call {f : FuncId} {xs : Array Operand} {tys : Array TypeId} (hfc : ∀ args w, (callFunc f args).run P w = .ok (.enter f args) w) {vs : List Value} (hv : (xs.toList.map (ev ρ)) = vs) {K : List PanicEntry → World → Prop} (hc : Calls P f vs.toArray w (fun e w' => ∃ ch, e = .panicked ch ∧ K ch w')) :
  XP P ρ w (.call { callee := .value (.func f), args := xs, argTypes := tys }) ty K := by
 intro a ops Q o next ho _ ha hw hk; unfold opK; rw [if_pos hw]; unfold Oper.wp
 have : (execOp a.eval o).run P w = .ok (.enter f vs.toArray) w := by
  rw [show execOp a.eval o = callFunc f (#[] ++ xs.map a.eval ++ #[]) by rcases o with ⟨_, _, _, _, _, _⟩; simp only at ho; subst ho; rfl, hfc, ha]
  have e : #[] ++ xs.map (ev ρ) ++ #[] = vs.toArray := by
   subst hv; apply Array.ext'; simp
  rw [e]
 rw [this]; refine hc.mono fun e w' h => ?_; obtain ⟨ch, rfl, h⟩ := h; exact hk _ _ h
def FQD (P : Program) (fn : Func) (R : Ending → World → Prop) (D : List Deferred) (m : Nat) : Ez
  | .normal, ρ, w => ∀ (n : Fr) a, Is n a ρ → Leaves P fn a.tmps R D .returning w
  | .ret, ρ, w => ∀ (n : Fr) a, Is n a ρ → Leaves P fn a.tmps R D .returning w
  | .panic chain, ρ, w => ∀ tmps : Array Value, (∀ t, t < m → tmps.getD t undef = ρ t) → Leaves P fn tmps R D (.panicking chain) w
  | _, _, _ => False
structure DF (P : Program) (n : Fr) (fn : Func) (R : Ending → World → Prop) (c : Code) (ρ : Env) (w : World) : Prop where
  out : ∀ a, Is n a ρ → c.wp P (bodyPostD P fn R) a w
theorem W.funcD {f : FuncId} {fn : Func} {args : List Value} {R : Ending → World → Prop} {n : Nat} (hf : P.funcs[f]? = some fn) (hb : fn.body.isSome = true) (hn : fn.ntmps = n) (hl : Nat.ble args.length n = true)
    (ht : tag (G7 fn) = 3) (h : W P ⟨n, [], 0⟩ (cA (G7 fn)) (fun e ρ w => e = .normal ∧ DF P ⟨n, [], 0⟩ fn R (cB (G7 fn)) ρ w) (env args) w) : Calls P f args.toArray w R := by
  obtain ⟨c, hc⟩ := Option.isSome_iff_exists.1 hb; have hle : args.length ≤ n := Nat.le_of_ble_eq_true hl; refine calls_of_wp_defers hf hc ?_; have hfb : G7 fn = c := by simp [G7, hc]
  rw [hfb] at h ht; have hIs : Is ⟨n, [], 0⟩ { tmps := args.toArray ++ Array.replicate (fn.ntmps - args.toArray.size) undef, defers := [] } (env args) := Is.enter hn hle
  cases c with
  | region _ _ b => cases b <;> cases ht
  | seq x y =>
    refine wp_seq (Code.wp_mono ?_ (h.out _ hIs)); intro e a w hq
    cases e with
    | normal => obtain ⟨ρ', h1, _, h2⟩ := hq; exact h2.out a h1
    | _ => obtain ⟨ρ', _, h, _⟩ := hq; cases h
  | _ => cases ht
theorem DF.go {fn : Func} {R : Ending → World → Prop} {k m d : Nat} {g : FuncId} {caps : Array Operand} {cs : List Value} {ty0 ty1 : TypeId} {ps0 ps1 : String} {af0 af1 : Array Edge} (ht : tag c = 3) (ht1 : tag (cA c) = 1)
    (o0 : Dm (cA c) 0 = some ⟨some d, .makeFunc (.func g) #[] caps, ty0, ps0, af0, none⟩)
    (o1 : Dm (cA c) 1 = some ⟨none, .defer { callee := .value (.tmp d), args := #[], argTypes := #[] }, ty1, ps1, af1, none⟩) (o2 : Dm (cA c) 2 = none)
    (hcs : caps.toList.map (ev ρ) = cs) (hd : Nat.blt d k = true)
    (h : W P ⟨k, [{ target := .fn (.func g) cs.toArray, args := #[] }], m⟩ (cB c) (FQD P fn R [{ target := .fn (.func g) cs.toArray, args := #[] }] m) (upd ρ d (.func (.func g) #[] cs.toArray)) w) : DF P ⟨k, [], 0⟩ fn R c ρ w := by
  refine ⟨fun a ha => ?_⟩; have hdk : d < k := by simpa [Nat.blt_eq] using hd
  cases c with
  | region _ _ b => cases b <;> cases ht
  | seq x y =>
    refine wp_seq ?_; change tag x = 1 at ht1
    cases x with
    | region id ops b =>
      cases b
      · refine wp_region_list ?_
        have hl : ops.toList = [⟨some d, .makeFunc (.func g) #[] caps, ty0, ps0, af0, none⟩, ⟨none, .defer { callee := .value (.tmp d), args := #[], argTypes := #[] }, ty1, ps1, af1, none⟩] := by
          have e0 := F7 o0; have e1 := F7 o1
          have e2 : ((D2 (cA (Code.seq (Code.region id ops false) y))).toList).drop 2 = [] := by
            unfold Dm at o2; simp at o2; simpa using o2
          simp only [Nat.zero_add, Nat.reduceAdd] at e0 e1; rw [e1, e2] at e0; exact e0
        rw [hl]; refine F9 ?_; refine wpl (v := .func (.func g) #[] cs.toArray) (w' := w) (by rfl) ?_ ?_
        · rw [ha.eval]; exact Y.makeFunc (S := fun _ => True) (fs := []) rfl hcs w trivial _ rfl rfl
        · have ha1 := ha.put hdk (.func (.func g) #[] cs.toArray); unfold wpList; rw [if_pos (by rfl)]; refine .inl ?_; unfold Oper.wp
          have hev : ev (upd ρ d (.func (.func g) #[] cs.toArray)) (.tmp d) = .func (.func g) #[] cs.toArray := by
            show upd ρ d _ d = _; unfold upd; rw [Nat.beq_refl]
          have hr : (execOp (a.put (some d) (.func (.func g) #[] cs.toArray)).eval ⟨none, .defer { callee := .value (.tmp d), args := #[], argTypes := #[] }, ty1, ps1, af1, none⟩).run P w = .ok (.defer { target := .fn (.func g) cs.toArray, args := #[] }) w := by
            rw [ha1.eval]; simp [execOp, resolve, hev, Deferred.ofValue]
          rw [hr]
          have ha2 : Is ⟨k, [{ target := .fn (.func g) cs.toArray, args := #[] }], m⟩ { (a.put (some d) (.func (.func g) #[] cs.toArray)) with defers := { target := .fn (.func g) cs.toArray, args := #[] } :: (a.put (some d) (.func (.func g) #[] cs.toArray)).defers } (upd ρ d (.func (.func g) #[] cs.toArray)) :=
            ⟨ha1.size, by rw [ha1.defers], ha1.get⟩
          refine Code.wp_mono ?_ (h.out _ ha2); intro e a' w' hq
          cases e with
          | normal => obtain ⟨ρ', h1, h2⟩ := hq; show Leaves P fn a'.tmps R a'.defers _ w'; rw [h1.defers]; exact h2 _ _ h1
          | ret => obtain ⟨ρ', h1, h2⟩ := hq; show Leaves P fn a'.tmps R a'.defers _ w'; rw [h1.defers]; exact h2 _ _ h1
          | panic ch => obtain ⟨ρ', ⟨h0, h1⟩, h2⟩ := hq; show Leaves P fn a'.tmps R a'.defers _ w'; rw [h0]; exact h2 _ h1
          | exit _ => obtain ⟨_, _, h⟩ := hq; exact h
          | goto _ => obtain ⟨_, _, h⟩ := hq; exact h
          | outgrown => obtain ⟨_, _, h⟩ := hq; exact h.elim
      · cases ht1
    | _ => cases ht1
  | _ => cases ht
theorem Y.iface {fs : Array Field} {v : Value} (ht : P.underlying t = some (.struct fs)) (hx : ev ρ x = v) : Y P S ρ (.makeInterface t x) ty (.iface t v) := fun w _ o ho _ => by
 simp [execOp, ho, hx, Instr.makeInterface, run_underlying ht]
theorem Y.assertYes {fs : Array Field} {v : Value} (ht : P.underlying t' = some (.struct fs)) (hx : ev ρ x = .iface t' v) : Y P S ρ (.typeAssert x t t' true) ty (.tuple #[v, .bool true]) := fun w _ o ho _ => by
 simp [execOp, ho, hx, Instr.typeAssert, run_underlying ht]
theorem Y.assertNo {fs : Array Field} {z : Value} (ht : P.underlying t' = some (.struct fs)) (hz : ∀ w, (zeroValue t').run P w = .ok z w) (hx : ev ρ x = .nilIface) : Y P S ρ (.typeAssert x t t' true) ty (.tuple #[z, .bool false]) := fun w _ o ho _ => by
 simp [execOp, ho, hx, Instr.typeAssert, run_underlying ht, hz]
theorem Y.neNil {m : Array (String × TypeId)} (ht : P.underlying t = some (.interface m)) (hx : ev ρ x = .nilIface) : Y P S ρ (.binOp .neq t x (.const .nilIface) t') ty (.bool false) := fun w _ o ho _ => by
 have he : ∀ w, (eqGuard .neq t x (.const .nilIface) .nilIface .nilIface).run P w = .ok () w := fun w => by unfold eqGuard; simp
 have h2 : (Op.equalIn (9999 + 1) t .nilIface .nilIface).run P w = .ok true w := by
  rw [Op.equalIn]; simp [run_underlying ht]
 have h3 : (Go.binOp .neq t .nilIface .nilIface).run P w = .ok (.bool false) w := by
  have h4 : (Op.equal t .nilIface .nilIface).run P w = .ok true w := h2; unfold binOp; simp only [Sem.run_bind, h4, Result.andThen_ok]; rfl
 have hy : ev ρ (.const .nilIface) = .nilIface := rfl; simp only [execOp, ho, hx, hy]; simp [he, h3]
theorem S3 {ops : Array Oper} {Q : Exit → Act → List Frame → World → Prop} {i : Nat} {rest : List Nat} {o : Oper} {a : Act} {cs cs' : List Frame} {w w' : World} {v : Value} (ho : ops[i]? = some o) (hw : Region.wanted o (yielded ops a.tmps) = true)
  (hr : (execOp a.eval o).run P w = .ok .recover w') (hrec : recoverD cs = some (v, cs') ∨ (recoverD cs = none ∧ v = .nilIface ∧ cs' = cs)) (k : wpOpsS P ops Q rest (a.put o.dst v) cs' w') : wpOpsS P ops Q (i :: rest) a cs w := by
 unfold wpOpsS; rw [ho]; dsimp only; rw [if_pos hw, hr]; rcases hrec with h | ⟨h, rfl, rfl⟩
 ·simp only [h]; exact k
 ·simp only [h]; exact k
theorem W2 {ops : Array Oper} {Q : Exit → Act → List Frame → World → Prop} {i : Nat} {rest : List Nat} {o : Oper} {a : Act} {cs : List Frame} {w : World} {v : Value} (ho : ops[i]? = some o) (hw : Region.wanted o (yielded ops a.tmps) = true)
  (hr : (execOp a.eval o).run P w = .ok (.value v) w) (k : wpOpsS P ops Q rest (a.put o.dst v) cs w) : wpOpsS P ops Q (i :: rest) a cs w := by
 unfold wpOpsS; rw [ho]; dsimp only; rw [if_pos hw, hr]; exact k
theorem W.funcR {f : FuncId} {fn : Func} {args : List Value} {R : Ending → FrameMode → World → Prop} {u u' : FrameMode} {v : Value} {n d d1 : Nat} {ty0 ty1 : TypeId} {ps0 ps1 : String} {af0 af1 : Array Edge} (hf : P.funcs[f]? = some fn) (hb : fn.body.isSome = true) (hn : fn.ntmps = n) (hl : Nat.ble args.length n = true)
    (ht : tag (G7 fn) = 3) (ht1 : tag (cA (G7 fn)) = 1)
    (o0 : Dm (cA (G7 fn)) 0 = some ⟨some d, .call { callee := .builtin .recover, args := #[], argTypes := #[] }, ty0, ps0, af0, none⟩)
    (o1 : Dm (cA (G7 fn)) 1 = some ⟨some d1, .assign (.tmp d), ty1, ps1, af1, none⟩) (o2 : Dm (cA (G7 fn)) 2 = none) (hd : Nat.blt d n = true) (hd1 : Nat.blt d1 n = true)
    (hrec : (v = .nilIface ∧ u' = .returning ∧ u = .returning) ∨ (u = .panicking [{ v := v, recovered := false }] ∧ u' = .panicking [{ v := v, recovered := true }]))
    (h : W P ⟨n, [], 0⟩ (cB (G7 fn)) (FQ P fn (fun e w' => R e u' w')) (upd (upd (env args) d v) d1 v) w) : CallsD P f args.toArray u w R := by
  obtain ⟨c, hc⟩ := Option.isSome_iff_exists.1 hb; have hle : args.length ≤ n := Nat.le_of_ble_eq_true hl; refine callsD_of_wpS hf hc ?_; intro c₀ cs hu; have hfb : G7 fn = c := by simp [G7, hc]
  rw [hfb] at h ht ht1 o0 o1 o2; have hIs : Is ⟨n, [], 0⟩ { tmps := args.toArray ++ Array.replicate (fn.ntmps - args.toArray.size) undef, defers := [] } (env args) := Is.enter hn hle; generalize ({ tmps := args.toArray ++ Array.replicate (fn.ntmps - args.toArray.size) undef, defers := [] } : Act) = a at hIs; have hdn : d < n := by simpa [Nat.blt_eq] using hd
  have hd1n : d1 < n := by simpa [Nat.blt_eq] using hd1
  cases c with
  | region _ _ b => cases b <;> cases ht
  | seq x y =>
    refine wpS_seq ?_; change tag x = 1 at ht1
    cases x with
    | region id ops b =>
      cases b
      · refine wpS_region ?_
        have hl : ops.toList = [⟨some d, .call { callee := .builtin .recover, args := #[], argTypes := #[] }, ty0, ps0, af0, none⟩, ⟨some d1, .assign (.tmp d), ty1, ps1, af1, none⟩] := by
          have e0 := F7 o0; have e1 := F7 o1
          have e2 : ((D2 (cA (Code.seq (Code.region id ops false) y))).toList).drop 2 = [] := by
            unfold Dm at o2; simp at o2; simpa using o2
          simp only [Nat.zero_add, Nat.reduceAdd] at e0 e1; rw [e1, e2] at e0; exact e0
        have hops : ops = #[⟨some d, .call { callee := .builtin .recover, args := #[], argTypes := #[] }, ty0, ps0, af0, none⟩, ⟨some d1, .assign (.tmp d), ty1, ps1, af1, none⟩] := Array.ext' hl; subst hops
        have hrd : recoverD (c₀ :: cs) = some (v, { c₀ with mode := u' } :: cs) ∨ (recoverD (c₀ :: cs) = none ∧ v = .nilIface ∧ { c₀ with mode := u' } :: cs = c₀ :: cs) := by
          rcases hrec with ⟨h1, h2, h3⟩ | ⟨h1, h2⟩
          · refine .inr ⟨?_, h1, ?_⟩
            · simp [recoverD, hu, h3]
            · rw [h2, ← h3, ← hu]
          · refine .inl ?_; subst h2; rw [h1] at hu; simp [recoverD, hu]
        refine S3 (i := 0) (o := ⟨some d, .call { callee := .builtin .recover, args := #[], argTypes := #[] }, ty0, ps0, af0, none⟩) (w' := w) rfl (by rfl) ?_ hrd ?_
        · simp [execOp, resolve, invoke, builtin]
        · have h1 := hIs.put hdn v; refine W2 (i := 1) (o := ⟨some d1, .assign (.tmp d), ty1, ps1, af1, none⟩) (v := v) rfl (by rfl) ?_ ?_
          · rw [h1.eval]
            have : ev (upd (env args) d v) (.tmp d) = v := by
              show upd _ d v d = v; unfold upd; rw [Nat.beq_refl]
            simp [execOp, this]
          · have h2 := h1.put hd1n v; refine wpS_of_wp (Code.wp_mono ?_ (h.out _ h2)); intro e a' w' hq
            cases e with
            | normal => obtain ⟨ρ', h1, v, h2, h3⟩ := hq; exact ⟨h1.defers, u', rfl, v, h2 _ _ h1, h3⟩
            | ret => obtain ⟨ρ', h1, v, h2, h3⟩ := hq; exact ⟨h1.defers, u', rfl, v, h2 _ _ h1, h3⟩
            | panic ch => obtain ⟨ρ', ⟨h1, _⟩, h2⟩ := hq; exact ⟨h1, u', rfl, h2⟩
            | exit _ => obtain ⟨_, _, h⟩ := hq; exact h
            | goto _ => obtain ⟨_, _, h⟩ := hq; exact h
            | outgrown => obtain ⟨_, _, h⟩ := hq; exact h.elim
      · cases ht1
    | _ => cases ht1
  | _ => cases ht
end
end
end Go.Proofs.YtaanjifekgfemaaGreat.K
