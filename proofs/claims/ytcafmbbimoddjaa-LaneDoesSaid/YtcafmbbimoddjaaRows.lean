/-
  No cell of these rows narrows 'for every input' (looked for: loops, veiled, ifaces, maps, wideKeys, modest, calm, conditions, laid).
  DERIVED. THE GIVEN ROWS OF THIS SEAT. 4 by the template 'for every input the law returns true; each argument reads behind the call as it read before'; 0 by the template 'total and deterministic' (their statements: YtcafmbbimoddjaaTotals.lean).
  GIVEN WITH THE SEED: the statements are not yours to turn. If you find one false, say at which input.
  Laid BY PROGRAM, IN A SANDBOX (cutbox-rows.mjs): the forced cells as the released guide's own fill.sh prints them over the translation 21b3f34e001ec362… (all of the seat's roots in one cut). By AI agents, Wed Nov 11 2026. No macro, syntax, notation, axiom, sorry.
-/
import Derived.Test.YtcafmbbimoddjaaChecked
import GoSem.Claim
import GoSem.ClaimJoined
import GoSem.ClaimMapViews
import Derived.JoinedTies
import Derived.KernelRfl
namespace Go.Proofs.Ytcafmbbimoddjaa
/- THE CELL 'sum', in the pinned program and in every row, IS THE sha256 OF THE DUMP (.gsa) THAT YtcafmbbimoddjaaProg.lean LOADS. Nothing in Lean hashes anything: it is a label: what it is worth is what the hold of that sum in a sandbox is worth. -/
noncomputable def Try.pinned : Pinned := { name := "ytcafmbbimoddjaa", sum := "21b3f34e001ec36237819ae42d5e9cd8b46065855f2438ac28645e8bfc344e5a", checked := Try.checked }
namespace Rows
def none {H : Type} : Left H := { results := [], args := [] }

/-- 'clepsydralaw08.LaneAges': WHATEVER THE INPUT: true; the input reads as it did. -/
def laneAgesSpec : ChangeSpec := { name := "laneAges", fn := fun _ => fun
  | [d1, d2] => { results := [.lit (.bool true)], args := [d1, d2] }
  | _ => none }
def laneAgesRow : OpenClaim := { program := "ytcafmbbimoddjaa", sum := "21b3f34e001ec36237819ae42d5e9cd8b46065855f2438ac28645e8bfc344e5a", func := "clepsydra/clepsydralaw08.LaneAges", spec := "laneAges", apart := false }
def LaneAgesSaid : Prop := laneAgesRow.holds Try.pinned (OpenSpec.ofChange laneAgesSpec)

/-- ITS FALSE NEIGHBOUR: 'it returns false'. Refute it at one input. -/
def laneAgesWrong : ChangeSpec := { name := "laneAges", fn := fun _ => fun
  | [d1, d2] => { results := [.lit (.bool false)], args := [d1, d2] }
  | _ => none }
def LaneAgesWrongFalsely : Prop := laneAgesRow.holds Try.pinned (OpenSpec.ofChange laneAgesWrong)

/-- 'clepsydralaw08.LaneDoes': WHATEVER THE INPUT: true; the input reads as it did. -/
def laneDoesSpec : ChangeSpec := { name := "laneDoes", fn := fun _ => fun
  | [d] => { results := [.lit (.bool true)], args := [d] }
  | _ => none }
def laneDoesRow : OpenClaim := { program := "ytcafmbbimoddjaa", sum := "21b3f34e001ec36237819ae42d5e9cd8b46065855f2438ac28645e8bfc344e5a", func := "clepsydra/clepsydralaw08.LaneDoes", spec := "laneDoes", apart := false }
def LaneDoesSaid : Prop := laneDoesRow.holds Try.pinned (OpenSpec.ofChange laneDoesSpec)

/-- ITS FALSE NEIGHBOUR: 'it returns false'. Refute it at one input. -/
def laneDoesWrong : ChangeSpec := { name := "laneDoes", fn := fun _ => fun
  | [d] => { results := [.lit (.bool false)], args := [d] }
  | _ => none }
def LaneDoesWrongFalsely : Prop := laneDoesRow.holds Try.pinned (OpenSpec.ofChange laneDoesWrong)

/-- 'clepsydralaw08.LaneOrders': WHATEVER THE INPUT: true; the input reads as it did. -/
def laneOrdersSpec : ChangeSpec := { name := "laneOrders", fn := fun _ => fun
  | [d1, d2, d3] => { results := [.lit (.bool true)], args := [d1, d2, d3] }
  | _ => none }
def laneOrdersRow : OpenClaim := { program := "ytcafmbbimoddjaa", sum := "21b3f34e001ec36237819ae42d5e9cd8b46065855f2438ac28645e8bfc344e5a", func := "clepsydra/clepsydralaw08.LaneOrders", spec := "laneOrders", apart := false }
def LaneOrdersSaid : Prop := laneOrdersRow.holds Try.pinned (OpenSpec.ofChange laneOrdersSpec)

/-- ITS FALSE NEIGHBOUR: 'it returns false'. Refute it at one input. -/
def laneOrdersWrong : ChangeSpec := { name := "laneOrders", fn := fun _ => fun
  | [d1, d2, d3] => { results := [.lit (.bool false)], args := [d1, d2, d3] }
  | _ => none }
def LaneOrdersWrongFalsely : Prop := laneOrdersRow.holds Try.pinned (OpenSpec.ofChange laneOrdersWrong)

/-- 'clepsydralaw08.LaneParts': WHATEVER THE INPUT: true; the input reads as it did. -/
def lanePartsSpec : ChangeSpec := { name := "laneParts", fn := fun _ => fun
  | [d1, d2] => { results := [.lit (.bool true)], args := [d1, d2] }
  | _ => none }
def lanePartsRow : OpenClaim := { program := "ytcafmbbimoddjaa", sum := "21b3f34e001ec36237819ae42d5e9cd8b46065855f2438ac28645e8bfc344e5a", func := "clepsydra/clepsydralaw08.LaneParts", spec := "laneParts", apart := false }
def LanePartsSaid : Prop := lanePartsRow.holds Try.pinned (OpenSpec.ofChange lanePartsSpec)

/-- ITS FALSE NEIGHBOUR: 'it returns false'. Refute it at one input. -/
def lanePartsWrong : ChangeSpec := { name := "laneParts", fn := fun _ => fun
  | [d1, d2] => { results := [.lit (.bool false)], args := [d1, d2] }
  | _ => none }
def LanePartsWrongFalsely : Prop := lanePartsRow.holds Try.pinned (OpenSpec.ofChange lanePartsWrong)

/- THE SECOND FORM. 'bulk': how many values and letters a reading holds, each counted each time it is reached (what is shared counts as often as it is met; a slice's spare places count too). A statement '..UptoSaid' is the law's where the arguments, and the package variables that the reading takes, are together of bulk at most 1048576: NARROWER than '..Said'. Prove '..Said' where nothing that the law and all that it calls make is longer than what came in: it says more and counts as full. Else prove '..UptoSaid'. A law counts once. -/
mutual
def uptoBulk {H : Type} : DataW H → Nat
  | .lit (.string bytes) => bytes.length + 1
  | .lit _ => 1
  | .nil => 1
  | .ptr d => uptoBulk d + 1
  | .slice elems spare => uptoBulkAll elems + uptoBulkAll spare + 1
  | .agg parts => uptoBulkAll parts + 1
  | .iface _ d => uptoBulk d + 1
  | .map entries => uptoBulkEntries entries + 1
  | .held _ => 1
def uptoBulkAll {H : Type} : List (DataW H) → Nat
  | [] => 0
  | d :: r => uptoBulk d + uptoBulkAll r
def uptoBulkEntries {H : Type} : List (Lit × DataW H) → Nat
  | [] => 0
  | x :: r => uptoBulkEntry x + uptoBulkEntries r
def uptoBulkEntry {H : Type} : Lit × DataW H → Nat
  | (.string bytes, d) => bytes.length + uptoBulk d + 1
  | (_, d) => uptoBulk d + 1
 end
def uptoSmall : (H : Type) → List (DataW H) → Bool := fun _ ds => decide (uptoBulkAll ds ≤ 1048576)
def OpenSpec.upto (s : _root_.Go.ChangeSpec) : _root_.Go.OpenSpec := { _root_.Go.OpenSpec.ofChange s with cond := some uptoSmall }

/-- 'clepsydralaw08.LaneAges', WHERE WHAT IT READS IS OF BULK AT MOST 1048576: true; the input reads as it did. -/
def laneAgesUptoRow : OpenClaim := { program := "ytcafmbbimoddjaa", sum := "21b3f34e001ec36237819ae42d5e9cd8b46065855f2438ac28645e8bfc344e5a", func := "clepsydra/clepsydralaw08.LaneAges", spec := "laneAges", apart := false, narrowed := true }
def LaneAgesUptoSaid : Prop := laneAgesUptoRow.holds Try.pinned (OpenSpec.upto laneAgesSpec)

/-- 'clepsydralaw08.LaneDoes', WHERE WHAT IT READS IS OF BULK AT MOST 1048576: true; the input reads as it did. -/
def laneDoesUptoRow : OpenClaim := { program := "ytcafmbbimoddjaa", sum := "21b3f34e001ec36237819ae42d5e9cd8b46065855f2438ac28645e8bfc344e5a", func := "clepsydra/clepsydralaw08.LaneDoes", spec := "laneDoes", apart := false, narrowed := true }
def LaneDoesUptoSaid : Prop := laneDoesUptoRow.holds Try.pinned (OpenSpec.upto laneDoesSpec)

/-- 'clepsydralaw08.LaneOrders', WHERE WHAT IT READS IS OF BULK AT MOST 1048576: true; the input reads as it did. -/
def laneOrdersUptoRow : OpenClaim := { program := "ytcafmbbimoddjaa", sum := "21b3f34e001ec36237819ae42d5e9cd8b46065855f2438ac28645e8bfc344e5a", func := "clepsydra/clepsydralaw08.LaneOrders", spec := "laneOrders", apart := false, narrowed := true }
def LaneOrdersUptoSaid : Prop := laneOrdersUptoRow.holds Try.pinned (OpenSpec.upto laneOrdersSpec)

/-- 'clepsydralaw08.LaneParts', WHERE WHAT IT READS IS OF BULK AT MOST 1048576: true; the input reads as it did. -/
def lanePartsUptoRow : OpenClaim := { program := "ytcafmbbimoddjaa", sum := "21b3f34e001ec36237819ae42d5e9cd8b46065855f2438ac28645e8bfc344e5a", func := "clepsydra/clepsydralaw08.LaneParts", spec := "laneParts", apart := false, narrowed := true }
def LanePartsUptoSaid : Prop := lanePartsUptoRow.holds Try.pinned (OpenSpec.upto lanePartsSpec)

end Rows
end Go.Proofs.Ytcafmbbimoddjaa
