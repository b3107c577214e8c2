/-
  No cell of these rows narrows 'for every input' (looked for: loops, veiled, ifaces, maps, wideKeys, modest, calm, conditions, laid).
  DERIVED. THE GIVEN ROWS OF THIS SEAT. 12 by the template 'for every input the law returns true; each argument reads behind the call as it read before'; 0 by the template 'total and deterministic' (their statements: YthhjebmgmjemoaaTotals.lean).
  GIVEN WITH THE SEED: the statements are not yours to turn. If you find one false, say at which input.
  Laid BY PROGRAM, IN A SANDBOX (cutbox-rows.mjs): the forced cells as the released guide's own fill.sh prints them over the translation 44a817fd2019b617… (all of the seat's roots in one cut). By AI agents, Wed Nov 11 2026. No macro, syntax, notation, axiom, sorry.
-/
import Derived.Test.YthhjebmgmjemoaaChecked
import GoSem.Claim
import GoSem.ClaimJoined
import GoSem.ClaimMapViews
import Derived.JoinedTies
import Derived.KernelRfl
namespace Go.Proofs.Ythhjebmgmjemoaa
/- THE CELL 'sum', in the pinned program and in every row, IS THE sha256 OF THE DUMP (.gsa) THAT YthhjebmgmjemoaaProg.lean LOADS. Nothing in Lean hashes anything: it is a label: what it is worth is what the hold of that sum in a sandbox is worth. -/
noncomputable def Try.pinned : Pinned := { name := "ythhjebmgmjemoaa", sum := "44a817fd2019b617fc0c4d5521b3d4894d6bb84ef05ed989bd48846ffc9d8edd", checked := Try.checked }
namespace Rows
def none {H : Type} : Left H := { results := [], args := [] }

/-- 'provenancekeep3.SsaFuel': WHATEVER THE INPUT: true; the input reads as it did. -/
def ssaFuelSpec : ChangeSpec := { name := "ssaFuel", fn := fun _ => fun
  | [d] => { results := [.lit (.bool true)], args := [d] }
  | _ => none }
def ssaFuelRow : OpenClaim := { program := "ythhjebmgmjemoaa", sum := "44a817fd2019b617fc0c4d5521b3d4894d6bb84ef05ed989bd48846ffc9d8edd", func := "provenance/provenancekeep3.SsaFuel", spec := "ssaFuel", unfollowed := true, recurses := true, apart := false }
def SsaFuelSaid : Prop := ssaFuelRow.holds Try.pinned (OpenSpec.ofChange ssaFuelSpec)

/-- ITS FALSE NEIGHBOUR: 'it returns false'. Refute it at one input. -/
def ssaFuelWrong : ChangeSpec := { name := "ssaFuel", fn := fun _ => fun
  | [d] => { results := [.lit (.bool false)], args := [d] }
  | _ => none }
def SsaFuelWrongFalsely : Prop := ssaFuelRow.holds Try.pinned (OpenSpec.ofChange ssaFuelWrong)

/-- 'provenancekeep3.SsaRenames': WHATEVER THE INPUT: true; the input reads as it did. -/
def ssaRenamesSpec : ChangeSpec := { name := "ssaRenames", fn := fun _ => fun
  | [d1, d2] => { results := [.lit (.bool true)], args := [d1, d2] }
  | _ => none }
def ssaRenamesRow : OpenClaim := { program := "ythhjebmgmjemoaa", sum := "44a817fd2019b617fc0c4d5521b3d4894d6bb84ef05ed989bd48846ffc9d8edd", func := "provenance/provenancekeep3.SsaRenames", spec := "ssaRenames", unfollowed := true, recurses := true, apart := false }
def SsaRenamesSaid : Prop := ssaRenamesRow.holds Try.pinned (OpenSpec.ofChange ssaRenamesSpec)

/-- ITS FALSE NEIGHBOUR: 'it returns false'. Refute it at one input. -/
def ssaRenamesWrong : ChangeSpec := { name := "ssaRenames", fn := fun _ => fun
  | [d1, d2] => { results := [.lit (.bool false)], args := [d1, d2] }
  | _ => none }
def SsaRenamesWrongFalsely : Prop := ssaRenamesRow.holds Try.pinned (OpenSpec.ofChange ssaRenamesWrong)

/-- 'provenancekeep3.SsaOrder': WHATEVER THE INPUT: true; the input reads as it did. -/
def ssaOrderSpec : ChangeSpec := { name := "ssaOrder", fn := fun _ => fun
  | [d] => { results := [.lit (.bool true)], args := [d] }
  | _ => none }
def ssaOrderRow : OpenClaim := { program := "ythhjebmgmjemoaa", sum := "44a817fd2019b617fc0c4d5521b3d4894d6bb84ef05ed989bd48846ffc9d8edd", func := "provenance/provenancekeep3.SsaOrder", spec := "ssaOrder", unfollowed := true, recurses := true, apart := false }
def SsaOrderSaid : Prop := ssaOrderRow.holds Try.pinned (OpenSpec.ofChange ssaOrderSpec)

/-- ITS FALSE NEIGHBOUR: 'it returns false'. Refute it at one input. -/
def ssaOrderWrong : ChangeSpec := { name := "ssaOrder", fn := fun _ => fun
  | [d] => { results := [.lit (.bool false)], args := [d] }
  | _ => none }
def SsaOrderWrongFalsely : Prop := ssaOrderRow.holds Try.pinned (OpenSpec.ofChange ssaOrderWrong)

/-- 'provenancekeep3.SsaEnds': WHATEVER THE INPUT: true; the input reads as it did. -/
def ssaEndsSpec : ChangeSpec := { name := "ssaEnds", fn := fun _ => fun
  | [d] => { results := [.lit (.bool true)], args := [d] }
  | _ => none }
def ssaEndsRow : OpenClaim := { program := "ythhjebmgmjemoaa", sum := "44a817fd2019b617fc0c4d5521b3d4894d6bb84ef05ed989bd48846ffc9d8edd", func := "provenance/provenancekeep3.SsaEnds", spec := "ssaEnds", unfollowed := true, recurses := true, apart := false }
def SsaEndsSaid : Prop := ssaEndsRow.holds Try.pinned (OpenSpec.ofChange ssaEndsSpec)

/-- ITS FALSE NEIGHBOUR: 'it returns false'. Refute it at one input. -/
def ssaEndsWrong : ChangeSpec := { name := "ssaEnds", fn := fun _ => fun
  | [d] => { results := [.lit (.bool false)], args := [d] }
  | _ => none }
def SsaEndsWrongFalsely : Prop := ssaEndsRow.holds Try.pinned (OpenSpec.ofChange ssaEndsWrong)

/-- 'provenancekeep3.CfgEdges': WHATEVER THE INPUT: true; the input reads as it did. -/
def cfgEdgesSpec : ChangeSpec := { name := "cfgEdges", fn := fun _ => fun
  | [d] => { results := [.lit (.bool true)], args := [d] }
  | _ => none }
def cfgEdgesRow : OpenClaim := { program := "ythhjebmgmjemoaa", sum := "44a817fd2019b617fc0c4d5521b3d4894d6bb84ef05ed989bd48846ffc9d8edd", func := "provenance/provenancekeep3.CfgEdges", spec := "cfgEdges", unfollowed := true, recurses := true, apart := false }
def CfgEdgesSaid : Prop := cfgEdgesRow.holds Try.pinned (OpenSpec.ofChange cfgEdgesSpec)

/-- ITS FALSE NEIGHBOUR: 'it returns false'. Refute it at one input. -/
def cfgEdgesWrong : ChangeSpec := { name := "cfgEdges", fn := fun _ => fun
  | [d] => { results := [.lit (.bool false)], args := [d] }
  | _ => none }
def CfgEdgesWrongFalsely : Prop := cfgEdgesRow.holds Try.pinned (OpenSpec.ofChange cfgEdgesWrong)

/-- 'provenancekeep3.SsaUnused': WHATEVER THE INPUT: true; the input reads as it did. -/
def ssaUnusedSpec : ChangeSpec := { name := "ssaUnused", fn := fun _ => fun
  | [d1, d2] => { results := [.lit (.bool true)], args := [d1, d2] }
  | _ => none }
def ssaUnusedRow : OpenClaim := { program := "ythhjebmgmjemoaa", sum := "44a817fd2019b617fc0c4d5521b3d4894d6bb84ef05ed989bd48846ffc9d8edd", func := "provenance/provenancekeep3.SsaUnused", spec := "ssaUnused", unfollowed := true, recurses := true, apart := false }
def SsaUnusedSaid : Prop := ssaUnusedRow.holds Try.pinned (OpenSpec.ofChange ssaUnusedSpec)

/-- ITS FALSE NEIGHBOUR: 'it returns false'. Refute it at one input. -/
def ssaUnusedWrong : ChangeSpec := { name := "ssaUnused", fn := fun _ => fun
  | [d1, d2] => { results := [.lit (.bool false)], args := [d1, d2] }
  | _ => none }
def SsaUnusedWrongFalsely : Prop := ssaUnusedRow.holds Try.pinned (OpenSpec.ofChange ssaUnusedWrong)

/-- 'provenancekeep3.CfgOrdered': WHATEVER THE INPUT: true; the input reads as it did. -/
def cfgOrderedSpec : ChangeSpec := { name := "cfgOrdered", fn := fun _ => fun
  | [d] => { results := [.lit (.bool true)], args := [d] }
  | _ => none }
def cfgOrderedRow : OpenClaim := { program := "ythhjebmgmjemoaa", sum := "44a817fd2019b617fc0c4d5521b3d4894d6bb84ef05ed989bd48846ffc9d8edd", func := "provenance/provenancekeep3.CfgOrdered", spec := "cfgOrdered", unfollowed := true, recurses := true, apart := false }
def CfgOrderedSaid : Prop := cfgOrderedRow.holds Try.pinned (OpenSpec.ofChange cfgOrderedSpec)

/-- ITS FALSE NEIGHBOUR: 'it returns false'. Refute it at one input. -/
def cfgOrderedWrong : ChangeSpec := { name := "cfgOrdered", fn := fun _ => fun
  | [d] => { results := [.lit (.bool false)], args := [d] }
  | _ => none }
def CfgOrderedWrongFalsely : Prop := cfgOrderedRow.holds Try.pinned (OpenSpec.ofChange cfgOrderedWrong)

/-- 'provenancekeep3.CfgSplits': WHATEVER THE INPUT: true; the input reads as it did. -/
def cfgSplitsSpec : ChangeSpec := { name := "cfgSplits", fn := fun _ => fun
  | [d] => { results := [.lit (.bool true)], args := [d] }
  | _ => none }
def cfgSplitsRow : OpenClaim := { program := "ythhjebmgmjemoaa", sum := "44a817fd2019b617fc0c4d5521b3d4894d6bb84ef05ed989bd48846ffc9d8edd", func := "provenance/provenancekeep3.CfgSplits", spec := "cfgSplits", unfollowed := true, recurses := true, apart := false }
def CfgSplitsSaid : Prop := cfgSplitsRow.holds Try.pinned (OpenSpec.ofChange cfgSplitsSpec)

/-- ITS FALSE NEIGHBOUR: 'it returns false'. Refute it at one input. -/
def cfgSplitsWrong : ChangeSpec := { name := "cfgSplits", fn := fun _ => fun
  | [d] => { results := [.lit (.bool false)], args := [d] }
  | _ => none }
def CfgSplitsWrongFalsely : Prop := cfgSplitsRow.holds Try.pinned (OpenSpec.ofChange cfgSplitsWrong)

/-- 'provenancekeep3.MovesCopies': WHATEVER THE INPUT: true; the input reads as it did. -/
def movesCopiesSpec : ChangeSpec := { name := "movesCopies", fn := fun _ => fun
  | [d1, d2] => { results := [.lit (.bool true)], args := [d1, d2] }
  | _ => none }
def movesCopiesRow : OpenClaim := { program := "ythhjebmgmjemoaa", sum := "44a817fd2019b617fc0c4d5521b3d4894d6bb84ef05ed989bd48846ffc9d8edd", func := "provenance/provenancekeep3.MovesCopies", spec := "movesCopies", unfollowed := true, recurses := true, apart := false }
def MovesCopiesSaid : Prop := movesCopiesRow.holds Try.pinned (OpenSpec.ofChange movesCopiesSpec)

/-- ITS FALSE NEIGHBOUR: 'it returns false'. Refute it at one input. -/
def movesCopiesWrong : ChangeSpec := { name := "movesCopies", fn := fun _ => fun
  | [d1, d2] => { results := [.lit (.bool false)], args := [d1, d2] }
  | _ => none }
def MovesCopiesWrongFalsely : Prop := movesCopiesRow.holds Try.pinned (OpenSpec.ofChange movesCopiesWrong)

/-- 'provenancekeep3.LiveBegin': WHATEVER THE INPUT: true; the input reads as it did. -/
def liveBeginSpec : ChangeSpec := { name := "liveBegin", fn := fun _ => fun
  | [d] => { results := [.lit (.bool true)], args := [d] }
  | _ => none }
def liveBeginRow : OpenClaim := { program := "ythhjebmgmjemoaa", sum := "44a817fd2019b617fc0c4d5521b3d4894d6bb84ef05ed989bd48846ffc9d8edd", func := "provenance/provenancekeep3.LiveBegin", spec := "liveBegin", unfollowed := true, recurses := true, apart := false }
def LiveBeginSaid : Prop := liveBeginRow.holds Try.pinned (OpenSpec.ofChange liveBeginSpec)

/-- ITS FALSE NEIGHBOUR: 'it returns false'. Refute it at one input. -/
def liveBeginWrong : ChangeSpec := { name := "liveBegin", fn := fun _ => fun
  | [d] => { results := [.lit (.bool false)], args := [d] }
  | _ => none }
def LiveBeginWrongFalsely : Prop := liveBeginRow.holds Try.pinned (OpenSpec.ofChange liveBeginWrong)

/-- 'provenancekeep3.DomClosest': WHATEVER THE INPUT: true; the input reads as it did. -/
def domClosestSpec : ChangeSpec := { name := "domClosest", fn := fun _ => fun
  | [d1, d2, d3] => { results := [.lit (.bool true)], args := [d1, d2, d3] }
  | _ => none }
def domClosestRow : OpenClaim := { program := "ythhjebmgmjemoaa", sum := "44a817fd2019b617fc0c4d5521b3d4894d6bb84ef05ed989bd48846ffc9d8edd", func := "provenance/provenancekeep3.DomClosest", spec := "domClosest", unfollowed := true, recurses := true, apart := false }
def DomClosestSaid : Prop := domClosestRow.holds Try.pinned (OpenSpec.ofChange domClosestSpec)

/-- ITS FALSE NEIGHBOUR: 'it returns false'. Refute it at one input. -/
def domClosestWrong : ChangeSpec := { name := "domClosest", fn := fun _ => fun
  | [d1, d2, d3] => { results := [.lit (.bool false)], args := [d1, d2, d3] }
  | _ => none }
def DomClosestWrongFalsely : Prop := domClosestRow.holds Try.pinned (OpenSpec.ofChange domClosestWrong)

/-- 'provenancekeep3.LiveUses': WHATEVER THE INPUT: true; the input reads as it did. -/
def liveUsesSpec : ChangeSpec := { name := "liveUses", fn := fun _ => fun
  | [d1, d2, d3] => { results := [.lit (.bool true)], args := [d1, d2, d3] }
  | _ => none }
def liveUsesRow : OpenClaim := { program := "ythhjebmgmjemoaa", sum := "44a817fd2019b617fc0c4d5521b3d4894d6bb84ef05ed989bd48846ffc9d8edd", func := "provenance/provenancekeep3.LiveUses", spec := "liveUses", unfollowed := true, recurses := true, apart := false }
def LiveUsesSaid : Prop := liveUsesRow.holds Try.pinned (OpenSpec.ofChange liveUsesSpec)

/-- ITS FALSE NEIGHBOUR: 'it returns false'. Refute it at one input. -/
def liveUsesWrong : ChangeSpec := { name := "liveUses", fn := fun _ => fun
  | [d1, d2, d3] => { results := [.lit (.bool false)], args := [d1, d2, d3] }
  | _ => none }
def LiveUsesWrongFalsely : Prop := liveUsesRow.holds Try.pinned (OpenSpec.ofChange liveUsesWrong)

/- THE SECOND FORM. 'bulk': how many values and letters a reading holds, each counted each time it is reached (what is shared counts as often as it is met; a slice's spare places count too). A statement '..UptoSaid' is the law's where the arguments, and the package variables that the reading takes, are together of bulk at most 1048576: NARROWER than '..Said'. Prove '..Said' where nothing that the law and all that it calls make is longer than what came in: it says more and counts as full. Else prove '..UptoSaid'. A law counts once. -/
mutual
def uptoBulk {H : Type} : DataW H → Nat
  | .lit (.string bytes) => bytes.length + 1
  | .lit _ => 1
  | .nil => 1
  | .ptr d => uptoBulk d + 1
  | .slice elems spare => uptoBulkAll elems + uptoBulkAll spare + 1
  | .agg parts => uptoBulkAll parts + 1
  | .iface _ d => uptoBulk d + 1
  | .map entries => uptoBulkEntries entries + 1
  | .held _ => 1
def uptoBulkAll {H : Type} : List (DataW H) → Nat
  | [] => 0
  | d :: r => uptoBulk d + uptoBulkAll r
def uptoBulkEntries {H : Type} : List (Lit × DataW H) → Nat
  | [] => 0
  | x :: r => uptoBulkEntry x + uptoBulkEntries r
def uptoBulkEntry {H : Type} : Lit × DataW H → Nat
  | (.string bytes, d) => bytes.length + uptoBulk d + 1
  | (_, d) => uptoBulk d + 1
 end
def uptoSmall : (H : Type) → List (DataW H) → Bool := fun _ ds => decide (uptoBulkAll ds ≤ 1048576)
def OpenSpec.upto (s : _root_.Go.ChangeSpec) : _root_.Go.OpenSpec := { _root_.Go.OpenSpec.ofChange s with cond := some uptoSmall }

/-- 'provenancekeep3.SsaFuel', WHERE WHAT IT READS IS OF BULK AT MOST 1048576: true; the input reads as it did. -/
def ssaFuelUptoRow : OpenClaim := { program := "ythhjebmgmjemoaa", sum := "44a817fd2019b617fc0c4d5521b3d4894d6bb84ef05ed989bd48846ffc9d8edd", func := "provenance/provenancekeep3.SsaFuel", spec := "ssaFuel", unfollowed := true, recurses := true, apart := false, narrowed := true }
def SsaFuelUptoSaid : Prop := ssaFuelUptoRow.holds Try.pinned (OpenSpec.upto ssaFuelSpec)

/-- 'provenancekeep3.SsaRenames', WHERE WHAT IT READS IS OF BULK AT MOST 1048576: true; the input reads as it did. -/
def ssaRenamesUptoRow : OpenClaim := { program := "ythhjebmgmjemoaa", sum := "44a817fd2019b617fc0c4d5521b3d4894d6bb84ef05ed989bd48846ffc9d8edd", func := "provenance/provenancekeep3.SsaRenames", spec := "ssaRenames", unfollowed := true, recurses := true, apart := false, narrowed := true }
def SsaRenamesUptoSaid : Prop := ssaRenamesUptoRow.holds Try.pinned (OpenSpec.upto ssaRenamesSpec)

/-- 'provenancekeep3.SsaOrder', WHERE WHAT IT READS IS OF BULK AT MOST 1048576: true; the input reads as it did. -/
def ssaOrderUptoRow : OpenClaim := { program := "ythhjebmgmjemoaa", sum := "44a817fd2019b617fc0c4d5521b3d4894d6bb84ef05ed989bd48846ffc9d8edd", func := "provenance/provenancekeep3.SsaOrder", spec := "ssaOrder", unfollowed := true, recurses := true, apart := false, narrowed := true }
def SsaOrderUptoSaid : Prop := ssaOrderUptoRow.holds Try.pinned (OpenSpec.upto ssaOrderSpec)

/-- 'provenancekeep3.SsaEnds', WHERE WHAT IT READS IS OF BULK AT MOST 1048576: true; the input reads as it did. -/
def ssaEndsUptoRow : OpenClaim := { program := "ythhjebmgmjemoaa", sum := "44a817fd2019b617fc0c4d5521b3d4894d6bb84ef05ed989bd48846ffc9d8edd", func := "provenance/provenancekeep3.SsaEnds", spec := "ssaEnds", unfollowed := true, recurses := true, apart := false, narrowed := true }
def SsaEndsUptoSaid : Prop := ssaEndsUptoRow.holds Try.pinned (OpenSpec.upto ssaEndsSpec)

/-- 'provenancekeep3.CfgEdges', WHERE WHAT IT READS IS OF BULK AT MOST 1048576: true; the input reads as it did. -/
def cfgEdgesUptoRow : OpenClaim := { program := "ythhjebmgmjemoaa", sum := "44a817fd2019b617fc0c4d5521b3d4894d6bb84ef05ed989bd48846ffc9d8edd", func := "provenance/provenancekeep3.CfgEdges", spec := "cfgEdges", unfollowed := true, recurses := true, apart := false, narrowed := true }
def CfgEdgesUptoSaid : Prop := cfgEdgesUptoRow.holds Try.pinned (OpenSpec.upto cfgEdgesSpec)

/-- 'provenancekeep3.SsaUnused', WHERE WHAT IT READS IS OF BULK AT MOST 1048576: true; the input reads as it did. -/
def ssaUnusedUptoRow : OpenClaim := { program := "ythhjebmgmjemoaa", sum := "44a817fd2019b617fc0c4d5521b3d4894d6bb84ef05ed989bd48846ffc9d8edd", func := "provenance/provenancekeep3.SsaUnused", spec := "ssaUnused", unfollowed := true, recurses := true, apart := false, narrowed := true }
def SsaUnusedUptoSaid : Prop := ssaUnusedUptoRow.holds Try.pinned (OpenSpec.upto ssaUnusedSpec)

/-- 'provenancekeep3.CfgOrdered', WHERE WHAT IT READS IS OF BULK AT MOST 1048576: true; the input reads as it did. -/
def cfgOrderedUptoRow : OpenClaim := { program := "ythhjebmgmjemoaa", sum := "44a817fd2019b617fc0c4d5521b3d4894d6bb84ef05ed989bd48846ffc9d8edd", func := "provenance/provenancekeep3.CfgOrdered", spec := "cfgOrdered", unfollowed := true, recurses := true, apart := false, narrowed := true }
def CfgOrderedUptoSaid : Prop := cfgOrderedUptoRow.holds Try.pinned (OpenSpec.upto cfgOrderedSpec)

/-- 'provenancekeep3.CfgSplits', WHERE WHAT IT READS IS OF BULK AT MOST 1048576: true; the input reads as it did. -/
def cfgSplitsUptoRow : OpenClaim := { program := "ythhjebmgmjemoaa", sum := "44a817fd2019b617fc0c4d5521b3d4894d6bb84ef05ed989bd48846ffc9d8edd", func := "provenance/provenancekeep3.CfgSplits", spec := "cfgSplits", unfollowed := true, recurses := true, apart := false, narrowed := true }
def CfgSplitsUptoSaid : Prop := cfgSplitsUptoRow.holds Try.pinned (OpenSpec.upto cfgSplitsSpec)

/-- 'provenancekeep3.MovesCopies', WHERE WHAT IT READS IS OF BULK AT MOST 1048576: true; the input reads as it did. -/
def movesCopiesUptoRow : OpenClaim := { program := "ythhjebmgmjemoaa", sum := "44a817fd2019b617fc0c4d5521b3d4894d6bb84ef05ed989bd48846ffc9d8edd", func := "provenance/provenancekeep3.MovesCopies", spec := "movesCopies", unfollowed := true, recurses := true, apart := false, narrowed := true }
def MovesCopiesUptoSaid : Prop := movesCopiesUptoRow.holds Try.pinned (OpenSpec.upto movesCopiesSpec)

/-- 'provenancekeep3.LiveBegin', WHERE WHAT IT READS IS OF BULK AT MOST 1048576: true; the input reads as it did. -/
def liveBeginUptoRow : OpenClaim := { program := "ythhjebmgmjemoaa", sum := "44a817fd2019b617fc0c4d5521b3d4894d6bb84ef05ed989bd48846ffc9d8edd", func := "provenance/provenancekeep3.LiveBegin", spec := "liveBegin", unfollowed := true, recurses := true, apart := false, narrowed := true }
def LiveBeginUptoSaid : Prop := liveBeginUptoRow.holds Try.pinned (OpenSpec.upto liveBeginSpec)

/-- 'provenancekeep3.DomClosest', WHERE WHAT IT READS IS OF BULK AT MOST 1048576: true; the input reads as it did. -/
def domClosestUptoRow : OpenClaim := { program := "ythhjebmgmjemoaa", sum := "44a817fd2019b617fc0c4d5521b3d4894d6bb84ef05ed989bd48846ffc9d8edd", func := "provenance/provenancekeep3.DomClosest", spec := "domClosest", unfollowed := true, recurses := true, apart := false, narrowed := true }
def DomClosestUptoSaid : Prop := domClosestUptoRow.holds Try.pinned (OpenSpec.upto domClosestSpec)

/-- 'provenancekeep3.LiveUses', WHERE WHAT IT READS IS OF BULK AT MOST 1048576: true; the input reads as it did. -/
def liveUsesUptoRow : OpenClaim := { program := "ythhjebmgmjemoaa", sum := "44a817fd2019b617fc0c4d5521b3d4894d6bb84ef05ed989bd48846ffc9d8edd", func := "provenance/provenancekeep3.LiveUses", spec := "liveUses", unfollowed := true, recurses := true, apart := false, narrowed := true }
def LiveUsesUptoSaid : Prop := liveUsesUptoRow.holds Try.pinned (OpenSpec.upto liveUsesSpec)

end Rows
end Go.Proofs.Ythhjebmgmjemoaa
